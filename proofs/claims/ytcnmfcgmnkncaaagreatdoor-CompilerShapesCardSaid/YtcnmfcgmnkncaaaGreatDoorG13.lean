/-
  Several texts in one: CoExprB, CoExpr.
-/
import Derived.Test.YtcnmfcgmnkncaaaGreatDoorG9
import Derived.Test.YtcnmfcgmnkncaaaGreatDoorG6
import Derived.Test.YtcnmfcgmnkncaaaGreatDoorG8
namespace Go.Proofs.YtcnmfcgmnkncaaaGreatDoor
namespace Cw
open Go.RowKit Go.Maps Pw
def CR (b j:Nat) (v:Value):World→Prop:=fun W=>W.cell? ⟨b,j,none⟩=some v
theorem cr_mn {b j:Nat} {v:Value}:Mn (CR b j v):=fun _ _ hi h=>hi.2 _ _ _ h
theorem cr_sight {w:World} {L:List Nat} {b j:Nat} {v:Value} (h:w.cell? ⟨b,j,none⟩=some v) (hb:b∉L):CR b j v (hide (upL 0 L) w):=by
 unfold CR
 rw [hide_cell? (upL_ge (Nat.zero_le _) hb)]
 exact h
def CE (b o:Nat) (x:Tr.E) (a:Value):World→Prop:=fun W=>CellsE W b o x a
theorem ce_mn {b o:Nat} {x:Tr.E} {a:Value}:Mn (CE b o x a):=fun _ _ hi h=>h.inc hi
set_option maxRecDepth 100000 in
set_option maxHeartbeats 16000000 in
theorem un_any {B0 gb:Nat} {cs:List Tr.C} {cl:Tr.C} {pv fv mv:Value} {g:Co.G} {cv nv vv:Value} {w:World} {d:Nat} (hE:EC B0 gb cs cl pv fv mv d) {l:List Tr.E} {x:Tr.E} (hx:l[0]? =some x) (hd:x.deep≤d) (hv:Tr.validE x=true) (h:GS B0 gb cs cl pv fv mv g cv nv vv w) (hB:B0≤w.heap.size) {n:Nat} (hbd:Co.Bd n g∧n+Co.wE x+2≤900000) {p:Option Addr} {N c:Nat} (hN:0<N) (hS:SlE (hide (upL 0 (owl gb cv nv vv)) w) (.slice p N c) l) {X E:Nat} (hX:w.cell? ⟨X,0,none⟩=some (.pointer (some ⟨gb,0,none⟩))) (hXo:X∉owl gb cv nv vv) (hE5:w.cell? ⟨E,5,none⟩=some (.slice p N c)) (hEo:E∉owl gb cv nv vv) (op:Int):
 Calls Tryz.prog 169 #[.int .i64 op,.pointer (some ⟨X,0,none⟩),.pointer (some ⟨E,0,none⟩)] w (GQ B0 gb cs cl pv fv mv (Co.emit (Co.gE cs cl.fields g x) op 0 0 1 1) cv nv vv w):=by
 obtain⟨b,oo,hp,hblt,pa,ca,hcx,hbx,hsx⟩:=Mg.elem (Mg.start (os:= [RE (.slice p N c) l]) h hB (fun r hr=>by rw [List.mem_singleton.1 hr];exact⟨re_mn,hS⟩)) 0 rfl hx
 subst hp
 obtain⟨AN,hAN⟩:∃q,x.args.length=q:=⟨_,rfl⟩
 rw [hAN] at hcx hsx
 obtain⟨b2,oo2,aa2,hp2,_,hcy,_,_⟩:=SlE.get hS hx
 cases hp2
 have HCY:Hid (CE b oo x (.slice pa AN ca) (hide (upL 0 (owl gb cv nv vv)) w)):=Lib.hid (by
  obtain⟨x0,x1,x2,x3,x4,x5⟩:=hcy
  have y5:=(hide_cell x5).2
  have z5:=hcx.2.2.2.2.2
  rw [y5] at z5
  injection z5 with z5
  subst z5
  exact⟨by simpa using x0,by simpa using x1,by simpa using x2,by simpa using x3,by simpa using x4,by simpa using x5⟩)
 have C0:=Lib.hid (Mg.start (os:= [CE b oo x (.slice pa AN ca),CR X 0 (.pointer (some ⟨gb,0,none⟩)),CR E 5 (.slice (some ⟨b,oo,none⟩) N c)]) h hB (fun r hr=>by
  rcases List.mem_cons.1 hr with rfl|hr
  ·exact⟨ce_mn,HCY.out⟩
  rcases List.mem_cons.1 hr with rfl|hr
  ·exact⟨cr_mn,cr_sight hX hXo⟩
  rw [List.mem_singleton.1 hr]
  exact⟨cr_mn,cr_sight hE5 hEo⟩))
 have HT:Hid (n+Co.wE x+2≤900000):=Lib.hid hbd.2
 have HBD:Hid (Co.Bd n g∧n≤900000):=Lib.hid ⟨hbd.1,by have:=hbd.2;omega⟩
 have hNx:(0:Int)<(N:Int):=by omega
 have HKX:=Lib.hid (fun (w1:World) (h1:GS B0 gb cs cl pv fv mv g cv nv vv w1) (hb1:B0≤w1.heap.size) (hs1:SlE (hide (upL 0 (owl gb cv nv vv)) w1) (.slice pa AN ca) x.args)=>hE x g cv nv vv w1 _ n hd hv hbx h1 hb1 ⟨hbd.1,by have:=hbd.2;omega⟩ hs1)
 unfold exprV at HKX
 have hsd:SlE (hide (upL 0 (owl gb cv nv vv)) w.drew) (.slice pa AN ca) x.args:=SlE.inc hsx (by have h8:=(Gr.below (gr_fresh (gr_drew (gr_refl w none))) (owl gb cv nv vv)).inc [] (V:=0);rw [List.append_nil] at h8;exact h8)
 have HSD:=Lib.hid hsd
 clear hsd
 clear h hB hbd hE hS hx hd hv hX hXo hE5 hEo hcx hbx hsx hcy hAN HCY hblt
 obtain⟨XX,hX⟩:∃q,Co.emit (Co.gE cs cl.fields g x) op 0 0 1 1=q:=⟨_,rfl⟩
 rw [hX]
 have HX:=Lib.hid hX
 clear hX
 go_enter Tryz.func169,Tryz.ntmps169
 go_upto_region 0 with fail
 obtain⟨w1,HW,C1⟩:=C0.out.drewE
 refine wp_region_held_drew (S:=fun W=>W.cell? ⟨X,0,none⟩=some (.pointer (some ⟨gb,0,none⟩))∧W.cell? ⟨E,5,none⟩=some (.slice (some ⟨b,oo,none⟩) N c)∧W.cell? ⟨b,oo,none⟩=some (.int .i64 x.kind)∧W.cell? ⟨b,oo+1,none⟩=some (.int .i64 x.op)∧W.cell? ⟨b,oo+2,none⟩=some (.int .i64 x.int)∧W.cell? ⟨b,oo+3,none⟩=some (.string x.name)∧W.cell? ⟨b,oo+4,none⟩=some (.bool x.at_)∧W.cell? ⟨b,oo+5,none⟩=some (.slice pa AN ca)) (by kernel_rfl) (by rw [←HW.out];exact⟨C1.out.rd 1 rfl,C1.out.rd 2 rfl,C1.out.rd 0 rfl⟩) (fun hHeld=>?_)
 rw [←HW.out] at hHeld ⊢
 have HWE:=HW
 clear HW C0
 refine rT 0 (some 4) ?_
 try simp only [Act.put,q0,q1,q2]
 refine rT 1 (some 5) ?_
 try simp only [Act.put,q0,q1,q2]
 refine rT 2 (some 6) ?_
 try simp only [Act.put,q0,q1,q2]
 refine rT 3 (some 7) ?_
 try simp only [Act.put,q0,q1,q2]
 refine rT 4 (some 8) ?_
 try simp only [Act.put,q0,q1,q2]
 refine rR1 5 (some 9) (fun K hK=>?_)
 go_simp
 clear hHeld
 refine(HKX.out w1 C1.out.q (Nat.le_trans C1.out.hB C1.out.le) (by first|exact HSD.out|(rw [HWE.out];exact HSD.out))).mono ?_
 rintro e w2 hp2
 obtain⟨rfl,cv2,nv2,vv2,C2⟩:=Mg.done C1.out hp2
 clear hp2 C1
 have HB3:Hid (Co.Bd (n+Co.wE x) (Co.gE cs cl.fields (g) x)∧n+Co.wE x≤900000):=Lib.hid ⟨Co.gE_bd cs cl.fields _ _ x HBD.out.1,by have h9:=HT.out;omega⟩
 clear HBD
 go_wp2_with fail
 refine hK.out _ _ ?_ (fun hHeld=>?_)
 ·exact⟨C2.out.rd 1 rfl,C2.out.rd 2 rfl,C2.out.rd 0 rfl⟩
 clear hK K
 try simp only [Act.put,q0,q1,q2]
 refine wpAnyH_done (by kernel_rfl) ?_ _
 clear hHeld
 have hx0:=C2.out.rd 1 rfl
 unfold CR at hx0
 go_wp2_with fail
 refine(emit_any C2.out.q (Nat.le_trans C2.out.hB C2.out.le) HB3.out (op) (0) (0) (1) (1) ⟨by omega,by omega⟩ ⟨by omega,by omega⟩).mono ?_
 rintro e w4 hp4
 obtain⟨rfl,cv4,nv4,vv4,C4⟩:=Mg.done C2.out hp4
 clear hp4 C2
 have HB5:Hid (Co.Bd (n+Co.wE x+1+1) (Co.emit (Co.gE cs cl.fields (g) x) (op) (0) (0) (1) (1))∧n+Co.wE x+1+1≤900000):=Lib.hid ⟨HB3.out.1.em (m:=1) ⟨by omega,by omega⟩ ⟨by omega,by omega⟩,by have h9:=HT.out;omega⟩
 clear HB3
 clear hx0
 go_wp2_with fail
 go_end0
 have h9:=Mg.fin C4.out
 rw [HX.out] at h9
 exact h9
set_option maxRecDepth 100000 in
set_option maxHeartbeats 16000000 in
theorem binary_any {B0 gb:Nat} {cs:List Tr.C} {cl:Tr.C} {pv fv mv:Value} {g:Co.G} {cv nv vv:Value} {w:World} {d:Nat} (hE:EC B0 gb cs cl pv fv mv d) (e:Tr.E) (hk:e.kind=10) (hd:e.deep≤d+1) (hv:Tr.validE e=true) (h:GS B0 gb cs cl pv fv mv g cv nv vv w) (hB:B0≤w.heap.size) {n:Nat} (hbd:Co.Bd n g∧n+Co.wEs e.args+9≤900000) (a:Value) (hS:SlE (hide (upL 0 (owl gb cv nv vv)) w) a e.args):
 Calls Tryz.prog 170 #[.pointer (some ⟨gb,0,none⟩),exprV e a] w (GQ B0 gb cs cl pv fv mv (if e.op=11 then Co.gL cs cl.fields g 19 0 e.args else if e.op=12 then Co.gL cs cl.fields g 20 1 e.args else Co.emit (Co.gEs cs cl.fields g e.args) 16 e.op 0 2 1) cv nv vv w):=by
 obtain⟨X,hX⟩:∃q,(if e.op=11 then Co.gL cs cl.fields g 19 0 e.args else if e.op=12 then Co.gL cs cl.fields g 20 1 e.args else Co.emit (Co.gEs cs cl.fields g e.args) 16 e.op 0 2 1)=q:=⟨_,rfl⟩
 rw [hX]
 obtain⟨k,o,i,nm,at_,l⟩:=e
 change (if o=11 then Co.gL cs cl.fields g 19 0 l else if o=12 then Co.gL cs cl.fields g 20 1 l else Co.emit (Co.gEs cs cl.fields g l) 16 o 0 2 1)=X at hX
 have hk:k=10:=hk
 subst hk
 have hvl:=(Co.valid_kind hv).1
 have HBD:Hid (Co.Bd n g∧n≤900000):=Lib.hid ⟨hbd.1,by have:=hbd.2;omega⟩
 have hbd2:Co.Bd n g∧n+Co.wEs l+9≤900000:=hbd
 have HT:Hid (n+Co.wEs l+9≤900000):=Lib.hid hbd2.2
 have hS2:SlE (hide (upL 0 (owl gb cv nv vv)) w) a l:=hS
 obtain⟨p,c,rfl,_⟩:=hS2.form
 obtain⟨N,hN⟩:∃q,l.length=q:=⟨_,rfl⟩
 rw [hN] at hS2 hS
 have HLG:Hid (∀(j v:Int) (cv1 nv1 vv1:Value) (w1:World),GS B0 gb cs cl pv fv mv g cv1 nv1 vv1 w1→B0≤w1.heap.size→SlE (hide (upL 0 (owl gb cv1 nv1 vv1)) w1) (.slice p N c) l→_):=Lib.hid (fun j v cv1 nv1 vv1 w1 h1 hb1 hs1=>logic_any hE (.mk 10 o i nm at_ l) rfl hd hv h1 hb1 hbd (.slice p N c) hs1 j v)
 have HEA:=Lib.hid hE
 have HDA:Hid (∀(j:Nat) (x:Tr.E),l[j]? =some x→x.deep≤d):=Lib.hid (fun j x hx=>Tr.E.deep_args hd (j:=j) (x:=x) hx)
 have HVA:=Lib.hid hvl
 have C0:=Lib.hid (Mg.start (os:= [RE (.slice p N c) l]) h hB (fun r hr=>by rw [List.mem_singleton.1 hr];exact⟨re_mn,hS2⟩))
 clear h hB hbd hE hS hd hv hS2 hvl hbd2
 unfold exprV at HLG ⊢
 simp only [Tr.E.kind,Tr.E.op,Tr.E.int,Tr.E.name,Tr.E.at_,Tr.E.args] at HLG ⊢
 rw [hN]
 have HX:=Lib.hid hX
 clear hX hN
 obtain⟨E,w6,HX6,HW6,hx6,C6⟩:=C0.out.boxE #[.int .i64 10,.int .i64 o,.int .i64 i,.string nm,.bool at_,.slice p N c] 37
 go_enter Tryz.func170,Tryz.ntmps170
 go_upto_region 1 with fail
 rw [←HX6.out,←HW6.out]
 clear HX6 HW6 C0
 by_cases h11:o=11
 ·subst h11
  obtain⟨Y,hY⟩:∃q,Co.gL cs cl.fields g 19 0 l=q:=⟨_,rfl⟩
  have hXY:Y=X:=by
   rw [←HX.out,←hY]
   rfl
  have q0:=cells6 (C6.out.b 0 rfl)
  go_wp2_with fail
  refine(HLG.out 19 0 _ _ _ w6 C6.out.q (Nat.le_trans C6.out.hB C6.out.le) (Mg.sight C6.out 0 rfl)).mono ?_
  rw [hY,hXY]
  clear hY hXY
  rintro e w7 hp7
  obtain⟨rfl,cv7,nv7,vv7,C7⟩:=Mg.done C6.out hp7
  clear hp7 C6
  go_wp2_with fail
  go_end0
  exact Mg.fin C7.out
 ·by_cases h12:o=12
  ·subst h12
   obtain⟨Y,hY⟩:∃q,Co.gL cs cl.fields g 20 1 l=q:=⟨_,rfl⟩
   have hXY:Y=X:=by
    rw [←HX.out,←hY]
    rfl
   have q0:=cells6 (C6.out.b 0 rfl)
   go_wp2_with fail
   refine(HLG.out 20 1 _ _ _ w6 C6.out.q (Nat.le_trans C6.out.hB C6.out.le) (Mg.sight C6.out 0 rfl)).mono ?_
   rw [hY,hXY]
   clear hY hXY
   rintro e w8 hp8
   obtain⟨rfl,cv8,nv8,vv8,C8⟩:=Mg.done C6.out hp8
   clear hp8 C6
   go_wp2_with fail
   go_end0
   exact Mg.fin C8.out
  ·have h11b:(o == 11)=false:=beq_eq_false_iff_ne.2 h11
   have h12b:(o == 12)=false:=beq_eq_false_iff_ne.2 h12
   rw [if_neg h11,if_neg h12] at HX
   have q0:=cells6 (C6.out.b 0 rfl)
   go_wp2_with fail
   refine(Mg.eachE C6.out 0 rfl HEA.out HDA.out HVA.out ⟨HBD.out.1,by have:=HT.out;omega⟩).mono ?_
   rintro e w9 hp9
   obtain⟨rfl,cv9,nv9,vv9,C9⟩:=Mg.done C6.out hp9
   clear hp9 C6
   clear q0
   have HB10:Hid (Co.Bd (n+Co.wEs l) (Co.gEs cs cl.fields (g) l)∧n+Co.wEs l≤900000):=Lib.hid ⟨Co.gEs_bd cs cl.fields _ _ l HBD.out.1,by have h9:=HT.out;omega⟩
   clear HBD
   have q0:=cells6 (C9.out.b 0 rfl)
   go_wp2_with fail
   refine(emit_any C9.out.q (Nat.le_trans C9.out.hB C9.out.le) HB10.out (16) (o) (0) (2) (1) ⟨by omega,by omega⟩ ⟨by omega,by omega⟩).mono ?_
   rintro e w11 hp11
   obtain⟨rfl,cv11,nv11,vv11,C11⟩:=Mg.done C9.out hp11
   clear hp11 C9
   clear q0
   have HB12:Hid (Co.Bd (n+Co.wEs l+2+1) (Co.emit (Co.gEs cs cl.fields (g) l) (16) (o) (0) (2) (1))∧n+Co.wEs l+2+1≤900000):=Lib.hid ⟨HB10.out.1.em (m:=2) ⟨by omega,by omega⟩ ⟨by omega,by omega⟩,by have h9:=HT.out;omega⟩
   clear HB10
   go_wp2_with fail
   go_end0
   have h9:=Mg.fin C11.out
   rw [HX.out] at h9
   exact h9
section
variable {B0 gb:Nat} {cs:List Tr.C} {cl:Tr.C} {pv fv mv:Value} {g:Co.G} {cv nv vv:Value} {w W:World} {o0:List Nat} {bs:List Bk} {os:List (World→Prop)}
theorem Mg.under (h:Mg B0 gb cs cl pv fv mv w o0 g cv nv vv bs os W) (i:Nat) {b oo N c:Nat} {l:List Tr.E} (hi:os[i]? =some (RE (.slice (some ⟨b,oo,none⟩) N c) l)) {j:Nat} {x:Tr.E} (hx:l[j]? =some x):
 ∃pa ca,Hid (Mg B0 gb cs cl pv fv mv w o0 g cv nv vv bs (CE b (oo+j*6) x (.slice pa x.args.length ca)::RE (.slice pa x.args.length ca) x.args::os) W)∧Hid (BdE x):=by
 obtain⟨b',oo',aa,hp,hb,hc,hbd,hs⟩:=SlE.get (h.o i hi) hx
 cases hp
 obtain⟨pa,ca,rfl,_⟩:=hs.form
 exact⟨pa,ca,Lib.hid ((h.get re_mn hs).get ce_mn hc),Lib.hid hbd⟩
end
theorem gE_1 (cs:List Tr.C) (fs:List ByteArray) (g:Co.G) {o i:Int} {nm:ByteArray} {a:Bool} {l:List Tr.E} (h:Co.const (.mk 1 o i nm a l)=none):Co.gE cs fs g (.mk 1 o i nm a l)=Co.emit g 1 0 0 0 1:=by
 rw [Co.gE,h]
 rfl
theorem gE_2 (cs:List Tr.C) (fs:List ByteArray) (g:Co.G) {o i:Int} {nm:ByteArray} {a:Bool} {l:List Tr.E} (h:Co.const (.mk 2 o i nm a l)=none):Co.gE cs fs g (.mk 2 o i nm a l)=Co.emit g 2 0 0 0 1:=by
 rw [Co.gE,h]
 rfl
theorem gE_3 (cs:List Tr.C) (fs:List ByteArray) (g:Co.G) {o i:Int} {nm:ByteArray} {a:Bool} {l:List Tr.E} (h:Co.const (.mk 3 o i nm a l)=none):Co.gE cs fs g (.mk 3 o i nm a l)=Co.emit g 3 (Co.local_ g nm) 0 0 1:=by
 rw [Co.gE,h]
 rfl
theorem gE_6 (cs:List Tr.C) (fs:List ByteArray) (g:Co.G) {o i:Int} {nm:ByteArray} {a:Bool} {l:List Tr.E} (h:Co.const (.mk 6 o i nm a l)=none):Co.gE cs fs g (.mk 6 o i nm a l)=Co.emit (Co.gEs cs fs g l) 12 0 0 1 1:=by
 rw [Co.gE,h]
 rfl
theorem gE_7 (cs:List Tr.C) (fs:List ByteArray) (g:Co.G) {o i:Int} {nm:ByteArray} {a:Bool} {l:List Tr.E} (h:Co.const (.mk 7 o i nm a l)=none):Co.gE cs fs g (.mk 7 o i nm a l)=Co.emit (Co.gEs cs fs g l) 13 0 0 1 1:=by
 rw [Co.gE,h]
 rfl
theorem gE_8 (cs:List Tr.C) (fs:List ByteArray) (g:Co.G) {o i:Int} {nm:ByteArray} {a:Bool} {l:List Tr.E} (h:Co.const (.mk 8 o i nm a l)=none):Co.gE cs fs g (.mk 8 o i nm a l)=Co.emit (Co.gEs cs fs g l) 14 0 0 1 1:=by
 rw [Co.gE,h]
 rfl
theorem gE_9 (cs:List Tr.C) (fs:List ByteArray) (g:Co.G) {o i:Int} {nm:ByteArray} {a:Bool} {l:List Tr.E} (h:Co.const (.mk 9 o i nm a l)=none):Co.gE cs fs g (.mk 9 o i nm a l)=Co.emit (Co.gEs cs fs g l) 15 0 0 1 1:=by
 rw [Co.gE,h]
 rfl
theorem gE_4 (cs:List Tr.C) (fs:List ByteArray) (g:Co.G) {o i:Int} {nm:ByteArray} {a:Bool} {l:List Tr.E} (h:Co.const (.mk 4 o i nm a l)=none):Co.gE cs fs g (.mk 4 o i nm a l)=(if Ck.headKind l=2 then Co.emit g 7 (Co.idx fs nm) 0 0 1 else Co.emit (Co.name (Co.gEs cs fs g l) nm).1 6 (Co.name (Co.gEs cs fs g l) nm).2 0 1 1):=by
 rw [Co.gE,h]
 rfl
theorem gE_5 (cs:List Tr.C) (fs:List ByteArray) (g:Co.G) {o i:Int} {nm:ByteArray} {a:Bool} {l:List Tr.E} (h:Co.const (.mk 5 o i nm a l)=none):Co.gE cs fs g (.mk 5 o i nm a l)=(if a then Co.emit (Co.gEs cs fs g l) 11 ((((Ck.classAt cs nm).getD 0:Nat):Int)+1) ((l.length:Int) - 1) l.length 1 else Co.emit (Co.gEs cs fs g l) 10 ((((Ck.classAt cs nm).getD 0:Nat):Int)+1) l.length l.length 1):=by
 rw [Co.gE,h]
 cases a<;>rfl
theorem gE_10 (cs:List Tr.C) (fs:List ByteArray) (g:Co.G) {o i:Int} {nm:ByteArray} {a:Bool} {l:List Tr.E} (h:Co.const (.mk 10 o i nm a l)=none):Co.gE cs fs g (.mk 10 o i nm a l)=(if o=11 then Co.gL cs fs g 19 0 l else if o=12 then Co.gL cs fs g 20 1 l else Co.emit (Co.gEs cs fs g l) 16 o 0 2 1):=by
 rw [Co.gE,h]
 rfl
theorem gE_c (cs:List Tr.C) (fs:List ByteArray) (g:Co.G) {k o i n:Int} {nm:ByteArray} {a:Bool} {l:List Tr.E} (h:Co.const (.mk k o i nm a l)=some n):Co.gE cs fs g (.mk k o i nm a l)=Co.emit g 0 n 0 0 1:=by
 rw [Co.gE,h]
theorem kinds {k o i:Int} {nm:ByteArray} {a:Bool} {n:Nat} (h:Tr.okE k o i nm a n=true) (h0:k≠0):k=1∨k=2∨k=3∨k=4∨k=5∨k=6∨k=7∨k=8∨k=9∨k=10:=by
 by_cases h1:k=1;exact .inl h1
 by_cases h2:k=2;exact .inr (.inl h2)
 by_cases h3:k=3;exact .inr (.inr (.inl h3))
 by_cases h4:k=4;exact .inr (.inr (.inr (.inl h4)))
 by_cases h5:k=5;exact .inr (.inr (.inr (.inr (.inl h5))))
 by_cases h6:k=6;exact .inr (.inr (.inr (.inr (.inr (.inl h6)))))
 by_cases h7:k=7;exact .inr (.inr (.inr (.inr (.inr (.inr (.inl h7))))))
 by_cases h8:k=8;exact .inr (.inr (.inr (.inr (.inr (.inr (.inr (.inl h8)))))))
 by_cases h9:k=9;exact .inr (.inr (.inr (.inr (.inr (.inr (.inr (.inr (.inl h9))))))))
 by_cases h10:k=10;exact .inr (.inr (.inr (.inr (.inr (.inr (.inr (.inr (.inr h10))))))))
 unfold Tr.okE at h
 rw [if_neg h0,if_neg h1,if_neg h2,if_neg h3,if_neg h4,if_neg h5,if_neg h6,if_neg h7,if_neg h8,if_neg h9,if_neg h10] at h
 simp at h
theorem one_arg {k o i:Int} {nm:ByteArray} {a:Bool} {l:List Tr.E} (h:Tr.okE k o i nm a l.length=true) (hk:k=4∨k=6∨k=7∨k=8∨k=9):∃x,l= [x]:=by
 have h1:l.length=1:=by
  unfold Tr.okE at h
  rcases hk with rfl|rfl|rfl|rfl|rfl<;>(simp at h;omega)
 match l,h1 with
 | [x],_=>exact ⟨x,rfl⟩
theorem class_lt {cs:List Tr.C} {nm:ByteArray}:(Ck.classAt cs nm).getD 0≤cs.length -1:=by
 cases h:Ck.classAt cs nm with
 |none=>exact Nat.zero_le _
 |some i=>
  have h2:i<cs.length:=by unfold Ck.classAt at h;exact(List.findIdx?_eq_some_iff_getElem.1 h).1
  show i≤_
  omega
set_option maxRecDepth 100000 in
set_option maxHeartbeats 40000000 in
theorem expr_any {B0 gb:Nat} {cs:List Tr.C} {cl:Tr.C} {pv fv mv:Value}:∀(d:Nat),EC B0 gb cs cl pv fv mv d:=by
 intro d
 induction d with
 |zero=>intro e g cv nv vv w a n hd;have:=e.deep_pos;omega
 |succ d ih=>
  intro e g cv nv vv w a n hd hv hbe h hB hbd hS
  obtain⟨X,hX⟩:∃q,Co.gE cs cl.fields g e=q:=⟨_,rfl⟩
  rw [hX]
  obtain⟨k,o,i,nm,at_,l⟩:=e
  have hvl:=(Co.valid_kind hv).1
  have hok:=(Co.valid_kind hv).2
  have HBD:Hid (Co.Bd n g∧n≤900000):=Lib.hid ⟨hbd.1,by have:=hbd.2;omega⟩
  have hbd2:Co.Bd n g∧n+Co.wE (.mk k o i nm at_ l)≤900000:=hbd
  rw [Co.wE] at hbd2
  have HT:Hid (n+(16+l.length+Co.wEs l)≤900000):=Lib.hid hbd2.2
  have hS2:SlE (hide (upL 0 (owl gb cv nv vv)) w) a l:=hS
  obtain⟨p,c,rfl,_⟩:=hS2.form
  have HNM:Hid (nm.size≤maxLen):=Lib.hid hbe.name
  have HCO:=Lib.hid (fun (w1:World) (h1:SlE w1 (.slice p l.length c) l)=>const_any (.mk k o i nm at_ l) (.slice p l.length c) w1 hbe h1 (by intro hk8 e9;have e9:l= []:=e9;have hk8:k=8:=hk8;subst hk8;subst e9;unfold Tr.okE at hok;simp at hok))
  obtain⟨N,hN⟩:∃q,l.length=q:=⟨_,rfl⟩
  have hNB:N≤900000:=by have:=HT.out;omega
  have hcsl:=h.pcw.len
  unfold maxLen at hcsl
  have hcls:=class_lt (cs:=cs) (nm:=nm)
  have HK0:Hid (Co.const (.mk k o i nm at_ l)=none→k≠0):=Lib.hid (fun h1 h2=>by subst h2;unfold Co.const at h1;simp at h1)
  have HEA:=Lib.hid ih
  have HD:Hid ((Tr.E.mk k o i nm at_ l).deep≤d+1):=Lib.hid hd
  have HV:Hid (Tr.validE (.mk k o i nm at_ l)=true):=Lib.hid hv
  have HVA:=Lib.hid hvl
  have HOK:=Lib.hid hok
  have HL:=Lib.hid hN
  have HS2:=Lib.hid hS2
  have C0:=Lib.hid (Mg.start (os:= [RE (.slice p l.length c) l]) h hB (fun r hr=>by rw [List.mem_singleton.1 hr];exact⟨re_mn,HS2.out⟩))
  rw [hN] at HCO C0
  clear h hB hbd hbd2 ih hS hd hv hS2 hvl hok hbe HS2
  unfold exprV at HCO ⊢
  simp only [Tr.E.kind,Tr.E.op,Tr.E.int,Tr.E.name,Tr.E.at_] at HCO ⊢
  rw [hN]
  clear hN
  have HX:=Lib.hid hX
  clear hX
  obtain⟨G,w1,HX1,HW1,hx1,C1⟩:=C0.out.boxE #[.pointer (some ⟨gb,0,none⟩)] 101
  obtain⟨E,w2,HX2,HW2,hx2,C2⟩:=C1.out.boxE #[.int .i64 k,.int .i64 o,.int .i64 i,.string nm,.bool at_,.slice p N c] 37
  have HY2:Hid (E=G+1):=Lib.hid (by rw [HX2.out,HW1.out,HX1.out];simp)
  go_enter Tryz.func132,Tryz.ntmps132
  go_upto_region 1 with fail
  rw [←HX1.out,←HW1.out,←HY2.out,←HW2.out]
  clear HX1 HW1 C0 HY2 HX2 HW2 C1
  have q0:=cells6 (C2.out.b 0 rfl)
  go_wp2_with fail
  clear q0
  refine(HCO.out w2 (SlE.inc (Mg.sight C2.out 0 rfl) hid_all)).mono ?_
  rintro e w3 ⟨rfl,hb⟩
  have C4:=Lib.hid (C2.out.below hb)
  clear C2
  clear hb HCO
  cases hc0:Co.const (.mk k o i nm at_ l) with
  |some v0=>
   simp only [Option.getD_some,Option.isSome_some]
   have hx9:=HX.out
   rw [gE_c cs cl.fields g hc0] at hx9
   have HX:=Lib.hid hx9
   clear hx9 hc0
   have q1:=cells1 (C4.out.b 1 rfl)
   go_wp2_with fail
   refine(put_any C4.out.q (Nat.le_trans C4.out.hB C4.out.le) HBD.out 0 v0 0 0 1 ⟨by omega,by omega⟩ ⟨by omega,by omega⟩).mono ?_
   rintro e w5 hp5
   obtain⟨rfl,cv5,nv5,vv5,C5⟩:=Mg.done C4.out hp5
   clear hp5 C4
   clear q1
   go_wp2_with fail
   go_end0
   have h9:=Mg.fin C5.out
   rw [HX.out] at h9
   exact h9
  |none=>
   simp only [Option.getD_none,Option.isSome_none]
   have HC0:=Lib.hid hc0
   rcases kinds HOK.out (HK0.out hc0) with hk|hk|hk|hk|hk|hk|hk|hk|hk|hk
   ·subst hk
    have hx9:=HX.out
    rw [gE_1 cs cl.fields g hc0] at hx9
    have HX:=Lib.hid hx9
    clear hx9 hc0
    have q1:=cells1 (C4.out.b 1 rfl)
    have q0:=cells6 (C4.out.b 0 rfl)
    go_wp2_with fail
    clear q1 q0
    refine(emit_any C4.out.q (Nat.le_trans C4.out.hB C4.out.le) HBD.out (1) (0) (0) (0) (1) ⟨by omega,by omega⟩ ⟨by omega,by omega⟩).mono ?_
    rintro e w6 hp6
    obtain⟨rfl,cv6,nv6,vv6,C6⟩:=Mg.done C4.out hp6
    clear hp6 C4
    have HB7:Hid (Co.Bd (n+1+1) (Co.emit (g) (1) (0) (0) (0) (1))∧n+1+1≤900000):=Lib.hid ⟨HBD.out.1.em (m:=1) ⟨by omega,by omega⟩ ⟨by omega,by omega⟩,by have h9:=HT.out;omega⟩
    clear HBD
    go_wp2_with fail
    go_end0
    have h9:=Mg.fin C6.out
    rw [HX.out] at h9
    exact h9
   ·subst hk
    have hx9:=HX.out
    rw [gE_2 cs cl.fields g hc0] at hx9
    have HX:=Lib.hid hx9
    clear hx9 hc0
    have q1:=cells1 (C4.out.b 1 rfl)
    have q0:=cells6 (C4.out.b 0 rfl)
    go_wp2_with fail
    clear q1 q0
    refine(emit_any C4.out.q (Nat.le_trans C4.out.hB C4.out.le) HBD.out (2) (0) (0) (0) (1) ⟨by omega,by omega⟩ ⟨by omega,by omega⟩).mono ?_
    rintro e w8 hp8
    obtain⟨rfl,cv8,nv8,vv8,C8⟩:=Mg.done C4.out hp8
    clear hp8 C4
    have HB9:Hid (Co.Bd (n+1+1) (Co.emit (g) (2) (0) (0) (0) (1))∧n+1+1≤900000):=Lib.hid ⟨HBD.out.1.em (m:=1) ⟨by omega,by omega⟩ ⟨by omega,by omega⟩,by have h9:=HT.out;omega⟩
    clear HBD
    go_wp2_with fail
    go_end0
    have h9:=Mg.fin C8.out
    rw [HX.out] at h9
    exact h9
   ·subst hk
    have hx9:=HX.out
    rw [gE_3 cs cl.fields g hc0] at hx9
    have HX:=Lib.hid hx9
    clear hx9 hc0
    have q1:=cells1 (C4.out.b 1 rfl)
    have q0:=cells6 (C4.out.b 0 rfl)
    go_upto_region 11 with fail
    clear q1 q0
    obtain⟨LV,hLV⟩:∃q,Co.local_ g nm=q:=⟨_,rfl⟩
    have HLV:=Lib.hid hLV
    rw [hLV] at HX
    clear hLV
    obtain⟨w10,HW,C10⟩:=C4.out.drewE
    refine wp_region_held_drew (S:=fun W=>W.cell? ⟨G,0,none⟩=some (.pointer (some ⟨gb,0,none⟩))∧W.cell? ⟨E,3,none⟩=some (.string nm)) (by kernel_rfl) (by rw [←HW.out];exact⟨cell_of_blkP (C10.out.b 1 rfl) (j:=0) rfl,cell_of_blkP (C10.out.b 0 rfl) (j:=3) rfl⟩) (fun hHeld=>?_)
    rw [←HW.out] at hHeld ⊢
    clear HW C4
    refine rT 0 (some 33) ?_
    try simp only [Act.put,q0,q1,q2]
    refine rT 1 (some 34) ?_
    try simp only [Act.put,q0,q1,q2]
    refine rT 2 (some 35) ?_
    try simp only [Act.put,q0,q1,q2]
    refine rT 3 (some 36) ?_
    try simp only [Act.put,q0,q1,q2]
    refine rR1 4 (some 37) (fun K hK=>?_)
    go_simp
    clear hHeld
    refine(local_any C10.out.q (by have:=HBD.out.1.vars;have:=HBD.out.2;omega) nm).mono ?_
    rintro e w11 ⟨rfl,hb⟩
    have C12:=Lib.hid (C10.out.below hb)
    clear C10
    clear hb
    rw [HLV.out]
    go_wp2_with fail
    refine hK.out _ _ ?_ (fun hHeld=>?_)
    ·exact⟨cell_of_blkP (C12.out.b 1 rfl) (j:=0) rfl,cell_of_blkP (C12.out.b 0 rfl) (j:=3) rfl⟩
    clear hK K
    try simp only [Act.put,q0,q1,q2]
    refine rR1 5 (some 38) (fun K hK=>?_)
    go_simp
    clear hHeld
    refine(emit_any C12.out.q (Nat.le_trans C12.out.hB C12.out.le) HBD.out (3) (LV) (0) (0) (1) ⟨by omega,by omega⟩ ⟨by omega,by omega⟩).mono ?_
    rintro e w13 hp13
    obtain⟨rfl,cv13,nv13,vv13,C13⟩:=Mg.done C12.out hp13
    clear hp13 C12
    have HB14:Hid (Co.Bd (n+1+1) (Co.emit (g) (3) (LV) (0) (0) (1))∧n+1+1≤900000):=Lib.hid ⟨HBD.out.1.em (m:=1) ⟨by omega,by omega⟩ ⟨by omega,by omega⟩,by have h9:=HT.out;omega⟩
    clear HBD
    go_wp2_with fail
    refine hK.out _ _ ?_ (fun hHeld=>?_)
    ·exact⟨cell_of_blkP (C13.out.b 1 rfl) (j:=0) rfl,cell_of_blkP (C13.out.b 0 rfl) (j:=3) rfl⟩
    clear hK K
    try simp only [Act.put,q0,q1,q2]
    refine wpAnyH_done (by kernel_rfl) ?_ _
    clear hHeld
    go_wp2_with fail
    go_end0
    have h9:=Mg.fin C13.out
    rw [HX.out] at h9
    exact h9
   ·subst hk
    have hx9:=HX.out
    rw [gE_4 cs cl.fields g hc0] at hx9
    have HX:=Lib.hid hx9
    clear hx9 hc0
    obtain⟨x,rfl⟩:=one_arg HOK.out (by omega)
    obtain rfl:N=1:=HL.out.symm
    have HVX:Hid (Tr.validE x=true):=Lib.hid (validEs_get HVA.out (j:=0) (e:=x) rfl)
    have HDX:Hid (x.deep≤d):=Lib.hid (Tr.E.deep_args HD.out (j:=0) (x:=x) rfl)
    have HTX:Hid (n+Co.wE x+17≤900000):=Lib.hid (by have h9:=HT.out;rw [Co.wEs,Co.wEs] at h9;simp only [List.length_cons,List.length_nil] at h9;omega)
    obtain⟨b,oo,hp,_,pa,ca,_⟩:=Mg.elem C4.out 0 rfl (j:=0) (x:=x) rfl
    subst hp
    obtain⟨b2,oo2,hp2,hlb,pa,ca,hce,hbx,hsx⟩:=Mg.elem C4.out 0 rfl (j:=0) (x:=x) rfl
    cases hp2
    obtain⟨AN,hAN⟩:∃q,x.args.length=q:=⟨_,rfl⟩
    rw [hAN] at hce hsx
    have hce2:=(Mg.sight C4.out 0 rfl).get (j:=0) (e:=x) rfl
    clear hsx hbx
    obtain⟨x0,x1,x2,x3,x4,x5⟩:=hce
    simp only [Nat.zero_mul,Nat.add_zero] at x0 x1 x2 x3 x4 x5
    clear hce2 hAN
    by_cases hx2:x.kind=2
    ·have hx9:=HX.out
     rw [if_pos (show Ck.headKind [x]=2 from hx2)] at hx9
     have HX:=Lib.hid hx9
     clear hx9
     rw [hx2] at x0
     have q1:=cells1 (C4.out.b 1 rfl)
     have q0:=cells6 (C4.out.b 0 rfl)
     go_upto_region 14 with fail
     clear q1 q0 x0 x1 x2 x3 x4 x5 hlb
     obtain⟨IV,hIV⟩:∃q,Co.idx cl.fields nm=q:=⟨_,rfl⟩
     have HIV:=Lib.hid hIV
     rw [hIV] at HX
     clear hIV
     obtain⟨w15,HW,C15⟩:=C4.out.drewE
     refine wp_region_held_drew (S:=fun W=>W.cell? ⟨G,0,none⟩=some (.pointer (some ⟨gb,0,none⟩))∧W.cell? ⟨E,3,none⟩=some (.string nm)∧W.cell? ⟨gb,3,none⟩=some (fv)) (by kernel_rfl) (by rw [←HW.out];exact⟨cell_of_blkP (C15.out.b 1 rfl) (j:=0) rfl,cell_of_blkP (C15.out.b 0 rfl) (j:=3) rfl,gcell C15.out.q (j:=3) rfl⟩) (fun hHeld=>?_)
     rw [←HW.out] at hHeld ⊢
     clear HW C4
     refine rT 0 (some 47) ?_
     try simp only [Act.put,q0,q1,q2]
     refine rT 1 (some 48) ?_
     try simp only [Act.put,q0,q1,q2]
     refine rT 2 (some 49) ?_
     try simp only [Act.put,q0,q1,q2]
     refine rT 3 (some 50) ?_
     try simp only [Act.put,q0,q1,q2]
     refine rT 4 (some 51) ?_
     try simp only [Act.put,q0,q1,q2]
     refine rT 5 (some 52) ?_
     try simp only [Act.put,q0,q1,q2]
     refine rT 6 (some 53) ?_
     try simp only [Act.put,q0,q1,q2]
     refine rT 7 (some 54) ?_
     try simp only [Act.put,q0,q1,q2]
     refine rR1 8 (some 55) (fun K hK=>?_)
     go_simp
     clear hHeld
     refine(index_any nm fv cl.fields w15 C15.out.q.fcw).mono ?_
     rintro e w' ⟨rfl,hww⟩
     rw [hww,HIV.out]
     clear hww w'
     go_wp2_with fail
     refine hK.out _ _ ?_ (fun hHeld=>?_)
     ·exact⟨cell_of_blkP (C15.out.b 1 rfl) (j:=0) rfl,cell_of_blkP (C15.out.b 0 rfl) (j:=3) rfl,gcell C15.out.q (j:=3) rfl⟩
     clear hK K
     try simp only [Act.put,q0,q1,q2]
     refine rR1 9 (some 56) (fun K hK=>?_)
     go_simp
     clear hHeld
     refine(emit_any C15.out.q (Nat.le_trans C15.out.hB C15.out.le) HBD.out (7) (IV) (0) (0) (1) ⟨by omega,by omega⟩ ⟨by omega,by omega⟩).mono ?_
     rintro e w17 hp17
     obtain⟨rfl,cv17,nv17,vv17,C17⟩:=Mg.done C15.out hp17
     clear hp17 C15
     have HB18:Hid (Co.Bd (n+1+1) (Co.emit (g) (7) (IV) (0) (0) (1))∧n+1+1≤900000):=Lib.hid ⟨HBD.out.1.em (m:=1) ⟨by omega,by omega⟩ ⟨by omega,by omega⟩,by have h9:=HT.out;omega⟩
     clear HBD
     go_wp2_with fail
     refine hK.out _ _ ?_ (fun hHeld=>?_)
     ·exact⟨cell_of_blkP (C17.out.b 1 rfl) (j:=0) rfl,cell_of_blkP (C17.out.b 0 rfl) (j:=3) rfl,gcell C17.out.q (j:=3) rfl⟩
     clear hK K
     try simp only [Act.put,q0,q1,q2]
     refine wpAnyH_done (by kernel_rfl) ?_ _
     clear hHeld
     go_wp2_with fail
     go_end0
     have h9:=Mg.fin C17.out
     rw [HX.out] at h9
     exact h9
    ·have hx9:=HX.out
     rw [if_neg (show ¬Ck.headKind [x]=2 from hx2),Co.gEs,Co.gEs] at hx9
     have HX:=Lib.hid hx9
     clear hx9
     have hxb:(x.kind == 2)=false:=beq_eq_false_iff_ne.2 hx2
     have q1:=cells1 (C4.out.b 1 rfl)
     have q0:=cells6 (C4.out.b 0 rfl)
     go_upto_region 15 with fail
     clear q1 q0 x0 x1 x2 x3 x4 x5 hlb hxb
     obtain⟨pa2,ca2,C19,HBX⟩:=Mg.under C4.out 0 rfl (j:=0) (x:=x) rfl
     clear C4
     simp only [Nat.zero_mul,Nat.add_zero] at C19
     obtain⟨AN,hAN⟩:∃q,x.args.length=q:=⟨_,rfl⟩
     rw [hAN] at C19
     have HAN:=Lib.hid hAN
     clear hAN
     have HTO:=HT
     clear HT
     have HT:=HTX
     obtain⟨w20,HW,C20⟩:=C19.out.drewE
     refine wp_region_held_drew (S:=fun W=>W.cell? ⟨G,0,none⟩=some (.pointer (some ⟨gb,0,none⟩))∧W.cell? ⟨E,5,none⟩=some (.slice (some ⟨b,oo,none⟩) 1 c)∧W.cell? ⟨b,oo,none⟩=some (.int .i64 x.kind)∧W.cell? ⟨b,oo+1,none⟩=some (.int .i64 x.op)∧W.cell? ⟨b,oo+2,none⟩=some (.int .i64 x.int)∧W.cell? ⟨b,oo+3,none⟩=some (.string x.name)∧W.cell? ⟨b,oo+4,none⟩=some (.bool x.at_)∧W.cell? ⟨b,oo+5,none⟩=some (.slice pa2 AN ca2)) (by kernel_rfl) (by rw [←HW.out];exact⟨cell_of_blkP (C20.out.b 1 rfl) (j:=0) rfl,cell_of_blkP (C20.out.b 0 rfl) (j:=5) rfl,C20.out.rd 0 rfl⟩) (fun hHeld=>?_)
     rw [←HW.out] at hHeld ⊢
     clear HW C19
     refine rT 0 (some 57) ?_
     try simp only [Act.put,q0,q1,q2]
     refine rT 1 (some 58) ?_
     try simp only [Act.put,q0,q1,q2]
     refine rT 2 (some 59) ?_
     try simp only [Act.put,q0,q1,q2]
     refine rT 3 (some 60) ?_
     try simp only [Act.put,q0,q1,q2]
     refine rT 4 (some 61) ?_
     try simp only [Act.put,q0,q1,q2]
     refine rR1 5 (some 62) (fun K hK=>?_)
     go_simp
     clear hHeld
     have hce9:=HEA.out x _ _ _ _ w20 (.slice pa2 AN ca2) _ HDX.out HVX.out HBX.out C20.out.q (Nat.le_trans C20.out.hB C20.out.le) ⟨HBD.out.1,by have:=HTX.out;omega⟩ (Mg.sight C20.out 1 rfl)
     unfold exprV at hce9
     refine hce9.mono ?_
     clear hce9
     rintro e w21 hp21
     obtain⟨rfl,cv21,nv21,vv21,C21⟩:=Mg.done C20.out hp21
     clear hp21 C20
     have HB22:Hid (Co.Bd (n+Co.wE x) (Co.gE cs cl.fields (g) x)∧n+Co.wE x≤900000):=Lib.hid ⟨Co.gE_bd cs cl.fields _ _ x HBD.out.1,by have h9:=HT.out;omega⟩
     clear HBD
     go_wp2_with fail
     refine hK.out _ _ ?_ (fun hHeld=>?_)
     ·exact⟨cell_of_blkP (C21.out.b 1 rfl) (j:=0) rfl,cell_of_blkP (C21.out.b 0 rfl) (j:=5) rfl,C21.out.rd 0 rfl⟩
     clear hK K
     try simp only [Act.put,q0,q1,q2]
     refine wpAnyH_done (by kernel_rfl) ?_ _
     clear hHeld
     go_upto_region 16 with fail
     obtain⟨g9,hg9⟩:∃q,Co.name (Co.gE cs cl.fields (g) x) nm=q:=⟨_,rfl⟩
     have HG9:=Lib.hid hg9
     rw [hg9] at HX
     clear hg9
     obtain⟨w23,HW,C23⟩:=C21.out.drewE
     refine wp_region_held_drew (S:=fun W=>W.cell? ⟨G,0,none⟩=some (.pointer (some ⟨gb,0,none⟩))∧W.cell? ⟨E,3,none⟩=some (.string nm)) (by kernel_rfl) (by rw [←HW.out];exact⟨cell_of_blkP (C23.out.b 1 rfl) (j:=0) rfl,cell_of_blkP (C23.out.b 0 rfl) (j:=3) rfl⟩) (fun hHeld=>?_)
     rw [←HW.out] at hHeld ⊢
     clear HW C21
     refine rT 0 (some 63) ?_
     try simp only [Act.put,q0,q1,q2]
     refine rT 1 (some 64) ?_
     try simp only [Act.put,q0,q1,q2]
     refine rT 2 (some 65) ?_
     try simp only [Act.put,q0,q1,q2]
     refine rT 3 (some 66) ?_
     try simp only [Act.put,q0,q1,q2]
     refine rR1 4 (some 67) (fun K hK=>?_)
     go_simp
     clear hHeld
     refine(name_any C23.out.q (Nat.le_trans C23.out.hB C23.out.le) HB22.out nm HNM.out).mono ?_
     rw [HG9.out]
     rintro e w24 hp24
     obtain⟨rfl,cv24,nv24,vv24,C24⟩:=Mg.named C23.out hp24
     clear hp24 C23
     have HB25:Hid (Co.Bd (n+Co.wE x+1) (g9.1)∧n+Co.wE x+1≤900000):=Lib.hid ⟨HG9.out▸HB22.out.1.name nm,by have h9:=HT.out;omega⟩
     clear HB22
     go_wp2_with fail
     refine hK.out _ _ ?_ (fun hHeld=>?_)
     ·exact⟨cell_of_blkP (C24.out.b 1 rfl) (j:=0) rfl,cell_of_blkP (C24.out.b 0 rfl) (j:=3) rfl⟩
     clear hK K
     try simp only [Act.put,q0,q1,q2]
     refine rR1 5 (some 68) (fun K hK=>?_)
     go_simp
     clear hHeld
     refine(emit_any C24.out.q (Nat.le_trans C24.out.hB C24.out.le) HB25.out (6) ((g9.2:Int)) (0) (1) (1) ⟨by omega,by omega⟩ ⟨by omega,by omega⟩).mono ?_
     rintro e w26 hp26
     obtain⟨rfl,cv26,nv26,vv26,C26⟩:=Mg.done C24.out hp26
     clear hp26 C24
     have HB27:Hid (Co.Bd (n+Co.wE x+1+1+1) (Co.emit (g9.1) (6) ((g9.2:Int)) (0) (1) (1))∧n+Co.wE x+1+1+1≤900000):=Lib.hid ⟨HB25.out.1.em (m:=1) ⟨by omega,by omega⟩ ⟨by omega,by omega⟩,by have h9:=HT.out;omega⟩
     clear HB25
     go_wp2_with fail
     refine hK.out _ _ ?_ (fun hHeld=>?_)
     ·exact⟨cell_of_blkP (C26.out.b 1 rfl) (j:=0) rfl,cell_of_blkP (C26.out.b 0 rfl) (j:=3) rfl⟩
     clear hK K
     try simp only [Act.put,q0,q1,q2]
     refine wpAnyH_done (by kernel_rfl) ?_ _
     clear hHeld
     go_wp2_with fail
     go_end0
     have h9:=Mg.fin C26.out
     rw [HX.out] at h9
     exact h9
   ·subst hk
    have hx9:=HX.out
    rw [gE_5 cs cl.fields g hc0] at hx9
    have HX:=Lib.hid hx9
    clear hx9 hc0
    obtain⟨CI,hCI⟩:∃q,(Ck.classAt cs nm).getD 0=q:=⟨_,rfl⟩
    rw [hCI] at HX hcls
    have HCI:=Lib.hid hCI
    have HCL:Hid (CI≤9223372036854775806):=Lib.hid (by omega)
    clear hCI hcls hcsl
    obtain⟨CB,hCB⟩:∃q,(Ck.classAt cs nm).isSome=q:=⟨_,rfl⟩
    have HCB:=Lib.hid hCB
    clear hCB
    have q1:=cells1 (C4.out.b 1 rfl)
    have q0:=cells6 (C4.out.b 0 rfl)
    go_upto_region 18 with fail
    clear q1 q0
    obtain⟨w28,HW,C28⟩:=C4.out.drewE
    refine wp_region_held_drew (S:=fun W=>W.cell? ⟨G,0,none⟩=some (.pointer (some ⟨gb,0,none⟩))∧W.cell? ⟨E,3,none⟩=some (.string nm)∧W.cell? ⟨gb,0,none⟩=some (pv)) (by kernel_rfl) (by rw [←HW.out];exact⟨cell_of_blkP (C28.out.b 1 rfl) (j:=0) rfl,cell_of_blkP (C28.out.b 0 rfl) (j:=3) rfl,gcell C28.out.q (j:=0) rfl⟩) (fun hHeld=>?_)
    rw [←HW.out] at hHeld ⊢
    clear HW C4
    refine rT 0 (some 72) ?_
    try simp only [Act.put,q0,q1,q2]
    refine rT 1 (some 73) ?_
    try simp only [Act.put,q0,q1,q2]
    refine rT 2 (some 74) ?_
    try simp only [Act.put,q0,q1,q2]
    refine rT 3 (some 75) ?_
    try simp only [Act.put,q0,q1,q2]
    refine rT 4 (some 76) ?_
    try simp only [Act.put,q0,q1,q2]
    refine rT 5 (some 77) ?_
    try simp only [Act.put,q0,q1,q2]
    refine rR1 6 (some 78) (fun K hK=>?_)
    go_simp
    clear hHeld
    obtain⟨pp,pc,hpv⟩:∃a b,pv= .slice a cs.length b:=C28.out.q.pcw.form
    have hcv:=class_any nm cs pv w28 C28.out.q.pcw
    rw [HCI.out,HCB.out] at hcv
    clear hpv pp pc
    refine(hcv).mono ?_
    rintro e w29 ⟨rfl,hb⟩
    have C30:=Lib.hid (C28.out.below hb)
    clear C28
    clear hb
    go_wp2_with fail
    refine hK.out _ _ ?_ (fun hHeld=>?_)
    ·exact⟨cell_of_blkP (C30.out.b 1 rfl) (j:=0) rfl,cell_of_blkP (C30.out.b 0 rfl) (j:=3) rfl,gcell C30.out.q (j:=0) rfl⟩
    clear hK K
    try simp only [Act.put,q0,q1,q2]
    refine rT 7 (some 71) ?_
    try simp only [Act.put,q0,q1,q2]
    refine rT 8 (some 79) ?_
    try simp only [Act.put,q0,q1,q2]
    refine rT 9 (some 80) ?_
    try simp only [Act.put,q0,q1,q2]
    refine rT 10 (some 7) ?_
    try simp only [Act.put,q0,q1,q2]
    refine rT 11 (some 8) ?_
    try simp only [Act.put,q0,q1,q2]
    refine wpAnyH_done (by kernel_rfl) ?_ _
    clear hHeld
    have q1:=cells1 (C30.out.b 1 rfl)
    have q0:=cells6 (C30.out.b 0 rfl)
    go_wp2_with fail
    refine(Mg.eachE C30.out 0 rfl HEA.out (fun j x hx=>Tr.E.deep_args HD.out (j:=j) (x:=x) hx) HVA.out ⟨HBD.out.1,by have:=HT.out;omega⟩).mono ?_
    rintro e w31 hp31
    obtain⟨rfl,cv31,nv31,vv31,C31⟩:=Mg.done C30.out hp31
    clear hp31 C30
    clear q1 q0
    have HB32:Hid (Co.Bd (n+Co.wEs l) (Co.gEs cs cl.fields (g) l)∧n+Co.wEs l≤900000):=Lib.hid ⟨Co.gEs_bd cs cl.fields _ _ l HBD.out.1,by have h9:=HT.out;omega⟩
    clear HBD
    have hl8:=HL.out
    rw [hl8] at HX
    have hci:=HCL.out
    have hw1:wrap64 ((CI:Int)+1)=(CI:Int)+1:=by unfold wrap64;omega
    have hw2:wrap64 ((N:Int) - 1)=(N:Int) - 1:=by unfold wrap64;omega
    have HTN:Hid (n+Co.wEs l+N+16≤900000):=Lib.hid (by have:=HT.out;omega)
    clear HT hl8
    have HT:=HTN
    cases at_ with
    |true=>
     rw [if_pos rfl] at HX
     have q1:=cells1 (C31.out.b 1 rfl)
     have q0:=cells6 (C31.out.b 0 rfl)
     go_wp2_with fail
     refine(emit_any C31.out.q (Nat.le_trans C31.out.hB C31.out.le) HB32.out (11) ((CI:Int)+1) ((N:Int) - 1) ((N:Int)) (1) ⟨by omega,by omega⟩ ⟨by omega,by omega⟩).mono ?_
     rintro e w33 hp33
     obtain⟨rfl,cv33,nv33,vv33,C33⟩:=Mg.done C31.out hp33
     clear hp33 C31
     have HB34:Hid (Co.Bd (n+Co.wEs l+N+1+1) (Co.emit (Co.gEs cs cl.fields (g) l) (11) ((CI:Int)+1) ((N:Int) - 1) ((N:Int)) (1))∧n+Co.wEs l+N+1+1≤900000):=Lib.hid ⟨HB32.out.1.em (m:=N+1) ⟨by omega,by omega⟩ ⟨by omega,by omega⟩,by have h9:=HT.out;omega⟩
     clear HB32
     go_wp2_with fail
     go_end0
     have h9:=Mg.fin C33.out
     rw [HX.out] at h9
     exact h9
    |false=>
     rw [if_neg (by decide)] at HX
     have q1:=cells1 (C31.out.b 1 rfl)
     have q0:=cells6 (C31.out.b 0 rfl)
     go_wp2_with fail
     refine(emit_any C31.out.q (Nat.le_trans C31.out.hB C31.out.le) HB32.out (10) ((CI:Int)+1) ((N:Int)) ((N:Int)) (1) ⟨by omega,by omega⟩ ⟨by omega,by omega⟩).mono ?_
     rintro e w35 hp35
     obtain⟨rfl,cv35,nv35,vv35,C35⟩:=Mg.done C31.out hp35
     clear hp35 C31
     have HB36:Hid (Co.Bd (n+Co.wEs l+N+1+1) (Co.emit (Co.gEs cs cl.fields (g) l) (10) ((CI:Int)+1) ((N:Int)) ((N:Int)) (1))∧n+Co.wEs l+N+1+1≤900000):=Lib.hid ⟨HB32.out.1.em (m:=N+1) ⟨by omega,by omega⟩ ⟨by omega,by omega⟩,by have h9:=HT.out;omega⟩
     clear HB32
     go_wp2_with fail
     go_end0
     have h9:=Mg.fin C35.out
     rw [HX.out] at h9
     exact h9
   ·subst hk
    have hx9:=HX.out
    rw [gE_6 cs cl.fields g hc0] at hx9
    have HX:=Lib.hid hx9
    clear hx9 hc0
    obtain⟨x,rfl⟩:=one_arg HOK.out (by omega)
    obtain rfl:N=1:=HL.out.symm
    have HVX:Hid (Tr.validE x=true):=Lib.hid (validEs_get HVA.out (j:=0) (e:=x) rfl)
    have HDX:Hid (x.deep≤d):=Lib.hid (Tr.E.deep_args HD.out (j:=0) (x:=x) rfl)
    have HTX:Hid (n+Co.wE x+17≤900000):=Lib.hid (by have h9:=HT.out;rw [Co.wEs,Co.wEs] at h9;simp only [List.length_cons,List.length_nil] at h9;omega)
    rw [Co.gEs,Co.gEs] at HX
    have q1:=cells1 (C4.out.b 1 rfl)
    have q0:=cells6 (C4.out.b 0 rfl)
    go_wp2_with fail
    clear q1 q0
    refine(un_any HEA.out (l:= [x]) (x:=x) rfl HDX.out HVX.out C4.out.q (Nat.le_trans C4.out.hB C4.out.le) ⟨HBD.out.1,by have:=HTX.out;omega⟩ (by decide) (Mg.sight C4.out 0 rfl) (cell_of_blkP (C4.out.b 1 rfl) (j:=0) rfl) (C4.out.lts (q:=G) (by simp)).2.2 (cell_of_blkP (C4.out.b 0 rfl) (j:=5) rfl) (C4.out.lts (q:=E) (by simp)).2.2 12).mono ?_
    rintro e w37 hp37
    obtain⟨rfl,cv37,nv37,vv37,C37⟩:=Mg.done C4.out hp37
    clear hp37 C4
    go_wp2_with fail
    go_end0
    have h9:=Mg.fin C37.out
    rw [HX.out] at h9
    exact h9
   ·subst hk
    have hx9:=HX.out
    rw [gE_7 cs cl.fields g hc0] at hx9
    have HX:=Lib.hid hx9
    clear hx9 hc0
    obtain⟨x,rfl⟩:=one_arg HOK.out (by omega)
    obtain rfl:N=1:=HL.out.symm
    have HVX:Hid (Tr.validE x=true):=Lib.hid (validEs_get HVA.out (j:=0) (e:=x) rfl)
    have HDX:Hid (x.deep≤d):=Lib.hid (Tr.E.deep_args HD.out (j:=0) (x:=x) rfl)
    have HTX:Hid (n+Co.wE x+17≤900000):=Lib.hid (by have h9:=HT.out;rw [Co.wEs,Co.wEs] at h9;simp only [List.length_cons,List.length_nil] at h9;omega)
    rw [Co.gEs,Co.gEs] at HX
    have q1:=cells1 (C4.out.b 1 rfl)
    have q0:=cells6 (C4.out.b 0 rfl)
    go_wp2_with fail
    clear q1 q0
    refine(un_any HEA.out (l:= [x]) (x:=x) rfl HDX.out HVX.out C4.out.q (Nat.le_trans C4.out.hB C4.out.le) ⟨HBD.out.1,by have:=HTX.out;omega⟩ (by decide) (Mg.sight C4.out 0 rfl) (cell_of_blkP (C4.out.b 1 rfl) (j:=0) rfl) (C4.out.lts (q:=G) (by simp)).2.2 (cell_of_blkP (C4.out.b 0 rfl) (j:=5) rfl) (C4.out.lts (q:=E) (by simp)).2.2 13).mono ?_
    rintro e w38 hp38
    obtain⟨rfl,cv38,nv38,vv38,C38⟩:=Mg.done C4.out hp38
    clear hp38 C4
    go_wp2_with fail
    go_end0
    have h9:=Mg.fin C38.out
    rw [HX.out] at h9
    exact h9
   ·subst hk
    have hx9:=HX.out
    rw [gE_8 cs cl.fields g hc0] at hx9
    have HX:=Lib.hid hx9
    clear hx9 hc0
    obtain⟨x,rfl⟩:=one_arg HOK.out (by omega)
    obtain rfl:N=1:=HL.out.symm
    have HVX:Hid (Tr.validE x=true):=Lib.hid (validEs_get HVA.out (j:=0) (e:=x) rfl)
    have HDX:Hid (x.deep≤d):=Lib.hid (Tr.E.deep_args HD.out (j:=0) (x:=x) rfl)
    have HTX:Hid (n+Co.wE x+17≤900000):=Lib.hid (by have h9:=HT.out;rw [Co.wEs,Co.wEs] at h9;simp only [List.length_cons,List.length_nil] at h9;omega)
    rw [Co.gEs,Co.gEs] at HX
    have q1:=cells1 (C4.out.b 1 rfl)
    have q0:=cells6 (C4.out.b 0 rfl)
    go_wp2_with fail
    clear q1 q0
    refine(un_any HEA.out (l:= [x]) (x:=x) rfl HDX.out HVX.out C4.out.q (Nat.le_trans C4.out.hB C4.out.le) ⟨HBD.out.1,by have:=HTX.out;omega⟩ (by decide) (Mg.sight C4.out 0 rfl) (cell_of_blkP (C4.out.b 1 rfl) (j:=0) rfl) (C4.out.lts (q:=G) (by simp)).2.2 (cell_of_blkP (C4.out.b 0 rfl) (j:=5) rfl) (C4.out.lts (q:=E) (by simp)).2.2 14).mono ?_
    rintro e w39 hp39
    obtain⟨rfl,cv39,nv39,vv39,C39⟩:=Mg.done C4.out hp39
    clear hp39 C4
    go_wp2_with fail
    go_end0
    have h9:=Mg.fin C39.out
    rw [HX.out] at h9
    exact h9
   ·subst hk
    have hx9:=HX.out
    rw [gE_9 cs cl.fields g hc0] at hx9
    have HX:=Lib.hid hx9
    clear hx9 hc0
    obtain⟨x,rfl⟩:=one_arg HOK.out (by omega)
    obtain rfl:N=1:=HL.out.symm
    have HVX:Hid (Tr.validE x=true):=Lib.hid (validEs_get HVA.out (j:=0) (e:=x) rfl)
    have HDX:Hid (x.deep≤d):=Lib.hid (Tr.E.deep_args HD.out (j:=0) (x:=x) rfl)
    have HTX:Hid (n+Co.wE x+17≤900000):=Lib.hid (by have h9:=HT.out;rw [Co.wEs,Co.wEs] at h9;simp only [List.length_cons,List.length_nil] at h9;omega)
    rw [Co.gEs,Co.gEs] at HX
    have q1:=cells1 (C4.out.b 1 rfl)
    have q0:=cells6 (C4.out.b 0 rfl)
    go_wp2_with fail
    clear q1 q0
    refine(un_any HEA.out (l:= [x]) (x:=x) rfl HDX.out HVX.out C4.out.q (Nat.le_trans C4.out.hB C4.out.le) ⟨HBD.out.1,by have:=HTX.out;omega⟩ (by decide) (Mg.sight C4.out 0 rfl) (cell_of_blkP (C4.out.b 1 rfl) (j:=0) rfl) (C4.out.lts (q:=G) (by simp)).2.2 (cell_of_blkP (C4.out.b 0 rfl) (j:=5) rfl) (C4.out.lts (q:=E) (by simp)).2.2 15).mono ?_
    rintro e w40 hp40
    obtain⟨rfl,cv40,nv40,vv40,C40⟩:=Mg.done C4.out hp40
    clear hp40 C4
    go_wp2_with fail
    go_end0
    have h9:=Mg.fin C40.out
    rw [HX.out] at h9
    exact h9
   ·subst hk
    have hx9:=HX.out
    rw [gE_10 cs cl.fields g hc0] at hx9
    have HX:=Lib.hid hx9
    clear hx9 hc0
    have q1:=cells1 (C4.out.b 1 rfl)
    have q0:=cells6 (C4.out.b 0 rfl)
    go_wp2_with fail
    clear q1 q0
    have hbn:=binary_any HEA.out (.mk 10 o i nm at_ l) rfl HD.out HV.out C4.out.q (Nat.le_trans C4.out.hB C4.out.le) ⟨HBD.out.1,by have h9:=HT.out;show n+Co.wEs l+9≤900000;omega⟩ (.slice p N c) (Mg.sight C4.out 0 rfl)
    unfold exprV at hbn
    change Calls _ _ _ _ (GQ _ _ _ _ _ _ _ (if o=11 then Co.gL cs cl.fields g 19 0 l else if o=12 then Co.gL cs cl.fields g 20 1 l else Co.emit (Co.gEs cs cl.fields g l) 16 o 0 2 1) _ _ _ _) at hbn
    rw [HX.out] at hbn
    refine hbn.mono ?_
    clear hbn
    rintro e w41 hp41
    obtain⟨rfl,cv41,nv41,vv41,C41⟩:=Mg.done C4.out hp41
    clear hp41 C4
    go_wp2_with fail
    go_end0
    exact Mg.fin C41.out
end Cw
end Go.Proofs.YtcnmfcgmnkncaaaGreatDoor
