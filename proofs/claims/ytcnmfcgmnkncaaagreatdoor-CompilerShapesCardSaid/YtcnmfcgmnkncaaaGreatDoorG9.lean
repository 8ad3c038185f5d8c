/-
  Several texts in one: CoExprS, CoWord.
-/
import Derived.Test.YtcnmfcgmnkncaaaGreatDoorG8
import Derived.Test.YtcnmfcgmnkncaaaGreatDoorG6
import Derived.Test.YtcnmfcgmnkncaaaGreatDoorG3
import Derived.Test.YtcnmfcgmnkncaaaGreatDoorG5
import Derived.Test.YtcnmfcgmnkncaaaGreatDoorG2
import Derived.Laws.Bits64b
import Derived.WalkLawsBesides
namespace Go.Proofs.YtcnmfcgmnkncaaaGreatDoor
namespace Cw
open Go.RowKit Go.Maps Pw
theorem wEs_len:∀l:List Tr.E,l.length≤Co.wEs l
 | []=>Nat.zero_le _
 |e::r=>by rw [Co.wEs,List.length_cons];have:=wEs_len r;have:=Co.wE_pos e;omega
theorem wEs_upto:∀ {l:List Tr.E} {j:Nat} {x:Tr.E},l[j]? =some x→Co.wEs (l.take j)+Co.wE x≤Co.wEs l
 | [],j,x,h=>by simp at h
 |y::r,0,x,h=>by cases h;rw [List.take_zero,Co.wEs,Co.wEs];omega
 |y::r,j+1,x,h=>by
  rw [List.take_succ_cons,Co.wEs,Co.wEs]
  have:=wEs_upto (l:=r) (j:=j) (x:=x) (by simpa using h)
  omega
theorem gEs_app (cs:List Tr.C) (fs:List ByteArray):∀(l:List Tr.E) (g:Co.G) (x:Tr.E),Co.gEs cs fs g (l++ [x])=Co.gE cs fs (Co.gEs cs fs g l) x
 | [],g,x=>by rw [List.nil_append,Co.gEs,Co.gEs,Co.gEs]
 |y::r,g,x=>by rw [List.cons_append,Co.gEs,Co.gEs,gEs_app cs fs r]
def EC (B0 gb:Nat) (cs:List Tr.C) (cl:Tr.C) (pv fv mv:Value) (d:Nat):Prop:=∀(e:Tr.E) (g:Co.G) (cv nv vv:Value) (w:World) (a:Value) (n:Nat),e.deep≤d→Tr.validE e=true→BdE e→GS B0 gb cs cl pv fv mv g cv nv vv w→B0≤w.heap.size→(Co.Bd n g∧n+Co.wE e≤900000)→SlE (hide (upL 0 (owl gb cv nv vv)) w) a e.args→
    Calls Tryz.prog 132 #[.pointer (some ⟨gb,0,none⟩),exprV e a] w (GQ B0 gb cs cl pv fv mv (Co.gE cs cl.fields g e) cv nv vv w)
theorem EC.less {B0 gb:Nat} {cs:List Tr.C} {cl:Tr.C} {pv fv mv:Value} {d d':Nat} (h:EC B0 gb cs cl pv fv mv d) (hd:d'≤d):EC B0 gb cs cl pv fv mv d':=fun e g cv nv vv w a n h1=>h e g cv nv vv w a n (Nat.le_trans h1 hd)
def RE (a:Value) (l:List Tr.E):World→Prop:=fun W=>SlE W a l
theorem re_mn {a:Value} {l:List Tr.E}:Mn (RE a l):=fun _ _ hi h=>SlE.inc h hi
section
variable {B0 gb:Nat} {cs:List Tr.C} {cl:Tr.C} {pv fv mv:Value} {g:Co.G} {cv nv vv:Value} {w W:World} {o0:List Nat} {bs:List Bk} {os:List (World→Prop)}
theorem Mg.sight (h:Mg B0 gb cs cl pv fv mv w o0 g cv nv vv bs os W) (i:Nat) {a:Value} {l:List Tr.E} (hi:os[i]? =some (RE a l)):SlE (hide (upL 0 (owl gb cv nv vv)) W) a l:=
 SlE.inc (h.o i hi) (hid_mono (Nat.le_refl _) (fun _ hb=>List.mem_append.2 (.inl hb)))
theorem Mg.elem (h:Mg B0 gb cs cl pv fv mv w o0 g cv nv vv bs os W) (i:Nat) {p:Option Addr} {N c:Nat} {l:List Tr.E} (hi:os[i]? =some (RE (.slice p N c) l)) {j:Nat} {x:Tr.E} (hx:l[j]? =some x):
 ∃b oo,p=some ⟨b,oo,none⟩∧b<W.heap.size∧∃pa ca,CellsE W b (oo+j*6) x (.slice pa x.args.length ca)∧BdE x∧SlE (hide (upL 0 (owl gb cv nv vv)) W) (.slice pa x.args.length ca) x.args:=by
 obtain⟨b,oo,aa,hp,hb,hc,hbd,hs⟩:=(h.sight i hi).get hx
 obtain⟨pa,ca,rfl,_⟩:=hs.form
 rw [hide_size] at hb
 exact⟨b,oo,hp,hb,pa,ca,⟨(hide_cell hc.1).2,(hide_cell hc.2.1).2,(hide_cell hc.2.2.1).2,(hide_cell hc.2.2.2.1).2,(hide_cell hc.2.2.2.2.1).2,(hide_cell hc.2.2.2.2.2).2⟩,hbd,hs⟩
theorem Mg.elemE (h:Mg B0 gb cs cl pv fv mv w o0 g cv nv vv bs os W) (i:Nat) {b oo N c n d:Nat} {l:List Tr.E} (hi:os[i]? =some (RE (.slice (some ⟨b,oo,none⟩) N c) l)) {j:Nat} {x:Tr.E} (hx:l[j]? =some x) (hE:EC B0 gb cs cl pv fv mv d) (hd:x.deep≤d) (hv:Tr.validE x=true) (hn:Co.Bd n g∧n+Co.wE x≤900000):
 b<W.heap.size∧∃pa ca,CellsE W b (oo+j*6) x (.slice pa x.args.length ca)∧Calls Tryz.prog 132 #[.pointer (some ⟨gb,0,none⟩),exprV x (.slice pa x.args.length ca)] W (GQ B0 gb cs cl pv fv mv (Co.gE cs cl.fields g x) cv nv vv W):=by
 obtain⟨b',oo',hp,hb,pa,ca,hc,hbd,hs⟩:=h.elem i hi hx
 cases hp
 exact⟨hb,pa,ca,hc,hE x g cv nv vv W _ n hd hv hbd h.q (Nat.le_trans h.hB h.le) hn hs⟩
theorem Mg.eachE (h:Mg B0 gb cs cl pv fv mv w o0 g cv nv vv bs os W) (i:Nat) {v:Value} {n d:Nat} {l:List Tr.E} (hi:os[i]? =some (RE v l)) (hE:EC B0 gb cs cl pv fv mv d) (hd:∀(j:Nat) (x:Tr.E),l[j]? =some x→x.deep≤d) (hv:Tr.validEs l=true) (hn:Co.Bd n g∧n+Co.wEs l≤900000):
 Calls Tryz.prog 130 #[v,.func (.func 132) #[.pointer (some ⟨gb,0,none⟩)] #[]] W (GQ B0 gb cs cl pv fv mv (Co.gEs cs cl.fields g l) cv nv vv W):=by
 have hI:=eachG_any (PP:=gb) (I:=fun j W'=>∃cv' nv' vv',Mg B0 gb cs cl pv fv mv W (owl gb cv nv vv) (Co.gEs cs cl.fields g (l.take j)) cv' nv' vv' [] [RE v l] W') l (v:=v) (w:=W) ?_ ?_ ?_ ?_
 ·refine hI.mono ?_
  rintro e w' ⟨rfl,c,m,u,hm⟩
  rw [List.take_of_length_le (Nat.le_refl _)] at hm
  exact Mg.fin hm
 ·exact Nat.le_trans (Nat.le_trans (wEs_len l) (Nat.le_trans (Nat.le_add_left _ n) hn.2)) (by decide)
 ·refine⟨cv,nv,vv,?_⟩
  rw [List.take_zero,Co.gEs]
  exact Mg.start h.q (Nat.le_trans h.hB h.le) (fun r hr=>by rw [List.mem_singleton.1 hr];exact⟨re_mn,h.sight i hi⟩)
 ·obtain⟨p,c,e,_⟩:=(h.sight i hi).form
  exact⟨p,c,e⟩
 ·rintro j x W1 hx ⟨c,m,u,hm⟩
  refine⟨_,hm.sight 0 rfl,fun a W2 hbd hb hs=>?_⟩
  have hm2:=hm.below hb
  have hs2:SlE (hide (upL 0 (owl gb c m u)) W2) a x.args:=SlE.inc hs (by have h8:=(Gr.below hb (owl gb c m u)).inc [] (V:=0);rw [List.append_nil] at h8;exact h8)
  have hbt:=Co.gEs_bd cs cl.fields n g (l.take j) hn.1
  have hwt:Co.wEs (l.take j)+Co.wE x≤Co.wEs l:=wEs_upto hx
  refine(hE x _ c m u W2 a (n+Co.wEs (l.take j)) (hd j x hx) (validEs_get hv hx) hbd hm2.q (Nat.le_trans hm2.hB hm2.le) ⟨hbt,by omega⟩ hs2).mono ?_
  rintro e w' hp
  obtain⟨rfl,c',m',u',hm3⟩:=Mg.done hm2 hp
  refine⟨rfl,c',m',u',?_⟩
  have e1:l.take (j+1)=l.take j++ [x]:=by rw [List.take_add_one,hx];rfl
  rw [e1,gEs_app]
  exact hm3.out
end
set_option maxRecDepth 100000 in
set_option maxHeartbeats 16000000 in
theorem logic_any {B0 gb:Nat} {cs:List Tr.C} {cl:Tr.C} {pv fv mv:Value} {g:Co.G} {cv nv vv:Value} {w:World} {d:Nat} (hE:EC B0 gb cs cl pv fv mv d) (e:Tr.E) (hk:e.kind=10) (hd:e.deep≤d+1) (hv:Tr.validE e=true) (h:GS B0 gb cs cl pv fv mv g cv nv vv w) (hB:B0≤w.heap.size) {n:Nat} (hbd:Co.Bd n g∧n+Co.wEs e.args+9≤900000) (a:Value) (hS:SlE (hide (upL 0 (owl gb cv nv vv)) w) a e.args) (op endv:Int):
 Calls Tryz.prog 187 #[.pointer (some ⟨gb,0,none⟩),exprV e a,.int .i64 op,.int .i64 endv] w (GQ B0 gb cs cl pv fv mv (Co.gL cs cl.fields g op endv e.args) cv nv vv w):=by
 obtain⟨k,o,i,nm,at_,l⟩:=e
 subst hk
 have hl2:l.length=2:=by
  have h9:=(Co.valid_kind hv).2
  unfold Tr.okE at h9
  simp at h9
  omega
 obtain⟨x,y,rfl⟩:∃x y,l= [x,y]:=by
  match l,hl2 with
  | [x,y],_=>exact ⟨x,y,rfl⟩
 have hvx:=validEs_get (Co.valid_kind hv).1 (j:=0) (e:=x) rfl
 have hvy:=validEs_get (Co.valid_kind hv).1 (j:=1) (e:=y) rfl
 have hdx:=Tr.E.deep_args hd (j:=0) (x:=x) rfl
 have hdy:=Tr.E.deep_args hd (j:=1) (x:=y) rfl
 have HT:Hid (n+(Co.wE x+Co.wE y)+9≤900000):=Lib.hid (by have h9:=hbd.2;change n+Co.wEs [x,y]+9≤900000 at h9;rw [Co.wEs,Co.wEs,Co.wEs] at h9;omega)
 have HEC:=Lib.hid hE
 have HVX:=Lib.hid hvx
 have HVY:=Lib.hid hvy
 have HDX:=Lib.hid hdx
 have HDY:=Lib.hid hdy
 have HBD:Hid (Co.Bd n g∧n≤900000):=Lib.hid ⟨hbd.1,by have:=hbd.2;omega⟩
 obtain⟨p,c,rfl,_⟩:=SlE.form hS
 have HS:Hid (SlE (hide (upL 0 (owl gb cv nv vv)) w) (.slice p 2 c) [x,y]):=Lib.hid hS
 obtain⟨b,oo,rfl⟩:∃b oo,p=some ⟨b,oo,none⟩:=by
  obtain⟨b,oo,_,e,_⟩:=SlE.get hS (j:=0) (e:=x) rfl
  exact⟨b,oo,e⟩
 have C0:=Lib.hid (Mg.start (os:= [RE (.slice (some ⟨b,oo,none⟩) 2 c) [x,y]]) h hB (fun r hr=>by rw [List.mem_singleton.1 hr];exact⟨re_mn,HS.out⟩))
 clear hd hvx hvy hdx hdy hbd hE hS HS h hB hv hl2
 obtain⟨X,hX⟩:∃q,Co.gL cs cl.fields g op endv [x,y]=q:=⟨_,rfl⟩
 unfold exprV
 simp only [Tr.E.kind,Tr.E.op,Tr.E.int,Tr.E.name,Tr.E.at_,Tr.E.args]
 rw [hX]
 have HX:Hid (Co.patch (Co.emit (Co.patch ({ Co.emit (Co.emit (Co.gE cs cl.fields (Co.emit (Co.gE cs cl.fields g x) op 0 0 1 0) y) 17 0 0 1 1) 18 0 0 0 0 with depth:=(Co.emit (Co.emit (Co.gE cs cl.fields (Co.emit (Co.gE cs cl.fields g x) op 0 0 1 0) y) 17 0 0 1 1) 18 0 0 0 0).depth -1 }) (Co.gE cs cl.fields g x).code.length) 0 endv 0 0 1) (Co.emit (Co.gE cs cl.fields (Co.emit (Co.gE cs cl.fields g x) op 0 0 1 0) y) 17 0 0 1 1).code.length=X):=Lib.hid (by rw [←hX,Co.gL,Co.gEs,Co.gEs])
 clear hX
 obtain⟨E,w1,HX1,HW1,hx1,C1⟩:=C0.out.boxE #[.int .i64 10,.int .i64 o,.int .i64 i,.string nm,.bool at_,.slice (some ⟨b,oo,none⟩) 2 c] 37
 go_enter Tryz.func187,Tryz.ntmps187
 go_upto_region 1 with fail
 rw [←HX1.out,←HW1.out]
 clear HX1 HW1 C0
 obtain⟨hlx,pax,cax,⟨zx_0,zx_1,zx_2,zx_3,zx_4,zx_5⟩,hKx⟩:=Mg.elemE C1.out 0 rfl (j:=0) (x:=x) rfl HEC.out HDX.out HVX.out ⟨HBD.out.1,by have h9:=HT.out;omega⟩
 obtain⟨ANx,hANx⟩:∃q,x.args.length=q:=⟨_,rfl⟩
 rw [hANx] at hKx zx_5
 unfold exprV at hKx
 simp only [Nat.zero_mul,Nat.add_zero] at zx_0 zx_1 zx_2 zx_3 zx_4 zx_5
 have HKx:=Lib.hid hKx
 clear hANx hKx
 have q0:=cells6 (C1.out.b 0 rfl)
 go_wp2_with fail
 refine HKx.out.mono ?_
 rintro e w2 hp2
 obtain⟨rfl,cv2,nv2,vv2,C2⟩:=Mg.done C1.out hp2
 clear hp2 C1
 clear HKx hlx zx_0 zx_1 zx_2 zx_3 zx_4 zx_5 q0
 have HB3:Hid (Co.Bd (n+Co.wE x) (Co.gE cs cl.fields (g) x)∧n+Co.wE x≤900000):=Lib.hid ⟨Co.gE_bd cs cl.fields _ _ x HBD.out.1,by have h9:=HT.out;omega⟩
 clear HBD
 go_wp2_with fail
 refine(jump_any C2.out.q (Nat.le_trans C2.out.hB C2.out.le) HB3.out (op) (1) ⟨by omega,by omega⟩).mono ?_
 rintro e w4 hp4
 obtain⟨X1,A1,cv4,nv4,vv4,rfl,C4⟩:=Mg.jumped C2.out hp4
 clear hp4 C2
 unfold labV
 have HB5:Hid (Co.Bd (n+Co.wE x+1+1) (Co.emit (Co.gE cs cl.fields (g) x) (op) 0 0 (1) 0)∧n+Co.wE x+1+1≤900000):=Lib.hid ⟨HB3.out.1.em (m:=1) ⟨by omega,by omega⟩ ⟨by omega,by omega⟩,by have h9:=HT.out;omega⟩
 clear HB3
 obtain⟨hly,pay,cay,⟨zy_0,zy_1,zy_2,zy_3,zy_4,zy_5⟩,hKy⟩:=Mg.elemE C4.out 0 rfl (j:=1) (x:=y) rfl HEC.out HDY.out HVY.out ⟨HB5.out.1,by have h9:=HT.out;omega⟩
 obtain⟨ANy,hANy⟩:∃q,y.args.length=q:=⟨_,rfl⟩
 rw [hANy] at hKy zy_5
 unfold exprV at hKy
 simp only [Nat.one_mul] at zy_0 zy_1 zy_2 zy_3 zy_4 zy_5
 have HKy:=Lib.hid hKy
 clear hANy hKy
 have q2:=cells6 (C4.out.b 2 rfl)
 go_wp2_with fail
 refine HKy.out.mono ?_
 rintro e w6 hp6
 obtain⟨rfl,cv6,nv6,vv6,C6⟩:=Mg.done C4.out hp6
 clear hp6 C4
 clear HKy hly zy_0 zy_1 zy_2 zy_3 zy_4 zy_5 q2
 have HB7:Hid (Co.Bd (n+Co.wE x+1+1+Co.wE y) (Co.gE cs cl.fields (Co.emit (Co.gE cs cl.fields (g) x) (op) 0 0 (1) 0) y)∧n+Co.wE x+1+1+Co.wE y≤900000):=Lib.hid ⟨Co.gE_bd cs cl.fields _ _ y HB5.out.1,by have h9:=HT.out;omega⟩
 clear HB5
 go_wp2_with fail
 refine(emit_any C6.out.q (Nat.le_trans C6.out.hB C6.out.le) HB7.out (17) (0) (0) (1) (1) ⟨by omega,by omega⟩ ⟨by omega,by omega⟩).mono ?_
 rintro e w8 hp8
 obtain⟨rfl,cv8,nv8,vv8,C8⟩:=Mg.done C6.out hp8
 clear hp8 C6
 have HB9:Hid (Co.Bd (n+Co.wE x+1+1+Co.wE y+1+1) (Co.emit (Co.gE cs cl.fields (Co.emit (Co.gE cs cl.fields (g) x) (op) 0 0 (1) 0) y) (17) (0) (0) (1) (1))∧n+Co.wE x+1+1+Co.wE y+1+1≤900000):=Lib.hid ⟨HB7.out.1.em (m:=1) ⟨by omega,by omega⟩ ⟨by omega,by omega⟩,by have h9:=HT.out;omega⟩
 clear HB7
 go_wp2_with fail
 refine(jump_any C8.out.q (Nat.le_trans C8.out.hB C8.out.le) HB9.out (18) (0) ⟨by omega,by omega⟩).mono ?_
 rintro e w10 hp10
 obtain⟨X2,A2,cv10,nv10,vv10,rfl,C10⟩:=Mg.jumped C8.out hp10
 clear hp10 C8
 unfold labV
 have HB11:Hid (Co.Bd (n+Co.wE x+1+1+Co.wE y+1+1+0+1) (Co.emit (Co.emit (Co.gE cs cl.fields (Co.emit (Co.gE cs cl.fields (g) x) (op) 0 0 (1) 0) y) (17) (0) (0) (1) (1)) (18) 0 0 (0) 0)∧n+Co.wE x+1+1+Co.wE y+1+1+0+1≤900000):=Lib.hid ⟨HB9.out.1.em (m:=0) ⟨by omega,by omega⟩ ⟨by omega,by omega⟩,by have h9:=HT.out;omega⟩
 clear HB9
 have gl:=lt_of_block C10.out.q.blk
 have g9:=gcell C10.out.q (j:=9) rfl
 have gf9:=gfree C10.out.q 9
 obtain⟨h1,h2⟩:=GS.put C10.out.q 9 (.int .i64 ((Co.emit (Co.emit (Co.gE cs cl.fields (Co.emit (Co.gE cs cl.fields (g) x) (op) 0 0 (1) 0) y) (17) (0) (0) (1) (1)) (18) 0 0 (0) 0).depth -1)) (g':= { Co.emit (Co.emit (Co.gE cs cl.fields (Co.emit (Co.gE cs cl.fields (g) x) (op) 0 0 (1) 0) y) (17) (0) (0) (1) (1)) (18) 0 0 (0) 0 with depth:=(Co.emit (Co.emit (Co.gE cs cl.fields (Co.emit (Co.gE cs cl.fields (g) x) (op) 0 0 (1) 0) y) (17) (0) (0) (1) (1)) (18) 0 0 (0) 0).depth -1 }) rfl rfl rfl rfl
 obtain⟨w12,HW⟩:∃q,Hid (q=w10.setCell ⟨gb,9,none⟩ (.int .i64 ((Co.emit (Co.emit (Co.gE cs cl.fields (Co.emit (Co.gE cs cl.fields (g) x) (op) 0 0 (1) 0) y) (17) (0) (0) (1) (1)) (18) 0 0 (0) 0).depth -1))):=⟨_,Lib.hid rfl⟩
 have C12:=Lib.hid (Mg.move C10.out h1 h2)
 rw [←HW.out] at C12
 clear h1 h2
 have hdw:wrap64 ((Co.emit (Co.emit (Co.gE cs cl.fields (Co.emit (Co.gE cs cl.fields (g) x) (op) 0 0 (1) 0) y) (17) (0) (0) (1) (1)) (18) 0 0 (0) 0).depth -1)=(Co.emit (Co.emit (Co.gE cs cl.fields (Co.emit (Co.gE cs cl.fields (g) x) (op) 0 0 (1) 0) y) (17) (0) (0) (1) (1)) (18) 0 0 (0) 0).depth -1:=by have h7:=HB11.out.1.dep;have h8:=HB11.out.2;unfold wrap64;omega
 go_upto_region 7 with fail
 rw [←HW.out]
 clear HW C10 gl g9 gf9
 have HB13:Hid (Co.Bd (n+Co.wE x+1+1+Co.wE y+1+1+0+1+1) ({ Co.emit (Co.emit (Co.gE cs cl.fields (Co.emit (Co.gE cs cl.fields (g) x) (op) 0 0 (1) 0) y) (17) (0) (0) (1) (1)) (18) 0 0 (0) 0 with depth:=(Co.emit (Co.emit (Co.gE cs cl.fields (Co.emit (Co.gE cs cl.fields (g) x) (op) 0 0 (1) 0) y) (17) (0) (0) (1) (1)) (18) 0 0 (0) 0).depth -1 })∧n+Co.wE x+1+1+Co.wE y+1+1+0+1+1≤900000):=Lib.hid ⟨HB11.out.1.less,by have h9:=HT.out;omega⟩
 clear HB11
 clear hdw
 have HLY:Hid ((Co.emit (Co.gE cs cl.fields g x) op 0 0 1 0).code.length≤(Co.gE cs cl.fields (Co.emit (Co.gE cs cl.fields g x) op 0 0 1 0) y).code.length):=Lib.hid (Co.gE_keep cs cl.fields _ y).len
 go_wp2_with fail
 refine(patch_any C12.out.q HB13.out (k:=(Co.gE cs cl.fields g x).code.length) (by have h9:=HLY.out;show _<(Co.emit (Co.emit (Co.gE cs cl.fields (Co.emit (Co.gE cs cl.fields g x) op 0 0 1 0) y) 17 0 0 1 1) 18 0 0 0 0).code.length;rw [Co.emit_len] at h9 ⊢;rw [Co.emit_len];omega) (C12.out.b 3 rfl) (C12.out.b 2 rfl) (C12.out.lts (q:=X1) (by simp)).2.2 (C12.out.lts (q:=A1) (by simp)).2.2).mono ?_
 rintro e w14 hp14
 obtain⟨rfl,cv14,nv14,vv14,C14⟩:=Mg.done C12.out hp14
 clear hp14 C12
 have HB15:Hid (Co.Bd (n+Co.wE x+1+1+Co.wE y+1+1+0+1+1) (Co.patch ({ Co.emit (Co.emit (Co.gE cs cl.fields (Co.emit (Co.gE cs cl.fields (g) x) (op) 0 0 (1) 0) y) (17) (0) (0) (1) (1)) (18) 0 0 (0) 0 with depth:=(Co.emit (Co.emit (Co.gE cs cl.fields (Co.emit (Co.gE cs cl.fields (g) x) (op) 0 0 (1) 0) y) (17) (0) (0) (1) (1)) (18) 0 0 (0) 0).depth -1 }) ((Co.gE cs cl.fields g x).code.length))∧n+Co.wE x+1+1+Co.wE y+1+1+0+1+1≤900000):=Lib.hid ⟨HB13.out.1.patch _,by have h9:=HT.out;omega⟩
 clear HB13
 go_wp2_with fail
 refine(emit_any C14.out.q (Nat.le_trans C14.out.hB C14.out.le) HB15.out (0) (endv) (0) (0) (1) ⟨by omega,by omega⟩ ⟨by omega,by omega⟩).mono ?_
 rintro e w16 hp16
 obtain⟨rfl,cv16,nv16,vv16,C16⟩:=Mg.done C14.out hp16
 clear hp16 C14
 have HB17:Hid (Co.Bd (n+Co.wE x+1+1+Co.wE y+1+1+0+1+1+1+1) (Co.emit (Co.patch ({ Co.emit (Co.emit (Co.gE cs cl.fields (Co.emit (Co.gE cs cl.fields (g) x) (op) 0 0 (1) 0) y) (17) (0) (0) (1) (1)) (18) 0 0 (0) 0 with depth:=(Co.emit (Co.emit (Co.gE cs cl.fields (Co.emit (Co.gE cs cl.fields (g) x) (op) 0 0 (1) 0) y) (17) (0) (0) (1) (1)) (18) 0 0 (0) 0).depth -1 }) ((Co.gE cs cl.fields g x).code.length)) (0) (endv) (0) (0) (1))∧n+Co.wE x+1+1+Co.wE y+1+1+0+1+1+1+1≤900000):=Lib.hid ⟨HB15.out.1.em (m:=1) ⟨by omega,by omega⟩ ⟨by omega,by omega⟩,by have h9:=HT.out;omega⟩
 clear HB15
 go_wp2_with fail
 refine(patch_any C16.out.q HB17.out (k:=(Co.emit (Co.gE cs cl.fields (Co.emit (Co.gE cs cl.fields g x) op 0 0 1 0) y) 17 0 0 1 1).code.length) (by rw [Co.emit_len (Co.patch ({ Co.emit (Co.emit (Co.gE cs cl.fields (Co.emit (Co.gE cs cl.fields g x) op 0 0 1 0) y) 17 0 0 1 1) 18 0 0 0 0 with depth:=(Co.emit (Co.emit (Co.gE cs cl.fields (Co.emit (Co.gE cs cl.fields g x) op 0 0 1 0) y) 17 0 0 1 1) 18 0 0 0 0).depth -1 }) (Co.gE cs cl.fields g x).code.length),Co.patch_len ({ Co.emit (Co.emit (Co.gE cs cl.fields (Co.emit (Co.gE cs cl.fields g x) op 0 0 1 0) y) 17 0 0 1 1) 18 0 0 0 0 with depth:=(Co.emit (Co.emit (Co.gE cs cl.fields (Co.emit (Co.gE cs cl.fields g x) op 0 0 1 0) y) 17 0 0 1 1) 18 0 0 0 0).depth -1 })];show _<(Co.emit (Co.emit (Co.gE cs cl.fields (Co.emit (Co.gE cs cl.fields g x) op 0 0 1 0) y) 17 0 0 1 1) 18 0 0 0 0).code.length+1;rw [Co.emit_len (Co.emit (Co.gE cs cl.fields (Co.emit (Co.gE cs cl.fields g x) op 0 0 1 0) y) 17 0 0 1 1)];omega) (C16.out.b 1 rfl) (C16.out.b 0 rfl) (C16.out.lts (q:=X2) (by simp)).2.2 (C16.out.lts (q:=A2) (by simp)).2.2).mono ?_
 rintro e w18 hp18
 obtain⟨rfl,cv18,nv18,vv18,C18⟩:=Mg.done C16.out hp18
 clear hp18 C16
 have HB19:Hid (Co.Bd (n+Co.wE x+1+1+Co.wE y+1+1+0+1+1+1+1) (Co.patch (Co.emit (Co.patch ({ Co.emit (Co.emit (Co.gE cs cl.fields (Co.emit (Co.gE cs cl.fields (g) x) (op) 0 0 (1) 0) y) (17) (0) (0) (1) (1)) (18) 0 0 (0) 0 with depth:=(Co.emit (Co.emit (Co.gE cs cl.fields (Co.emit (Co.gE cs cl.fields (g) x) (op) 0 0 (1) 0) y) (17) (0) (0) (1) (1)) (18) 0 0 (0) 0).depth -1 }) ((Co.gE cs cl.fields g x).code.length)) (0) (endv) (0) (0) (1)) ((Co.emit (Co.gE cs cl.fields (Co.emit (Co.gE cs cl.fields g x) op 0 0 1 0) y) 17 0 0 1 1).code.length))∧n+Co.wE x+1+1+Co.wE y+1+1+0+1+1+1+1≤900000):=Lib.hid ⟨HB17.out.1.patch _,by have h9:=HT.out;omega⟩
 clear HB17
 go_wp2_with fail
 go_end0
 have h9:=Mg.fin C18.out
 rw [HX.out] at h9
 exact h9
end Cw
end Go.Proofs.YtcnmfcgmnkncaaaGreatDoor
namespace Go.Proofs.YtcnmfcgmnkncaaaGreatDoor
namespace Cw
open Go.RowKit Go.Maps Pw
theorem wrap_eq (n:Int):wrap64 (n*4) / 4=Co.wrap n:=by
 unfold wrap64 Co.wrap
 omega
def Q62 (n:Int):Prop:= -2305843009213693952≤n∧n≤2305843009213693951
theorem wrap62 {n:Int} (h:Q62 n):Co.wrap n=n:=by
 unfold Co.wrap
 have:=h.1
 have:=h.2
 omega
theorem q62_wrap (n:Int):Q62 (Co.wrap n):=Co.wrap_bd n
def enc (n:Int):Int:=(n*4+1) % 18446744073709551616
theorem enc_or (n:Int):bits BinOp.or IntKind.u64 (IntKind.u64.wrap (IntKind.u64.wrap n*4)) 1=enc n:=by
 have h1:IntKind.u64.wrap (IntKind.u64.wrap n*4)=(((4*(n % 4611686018427387904).toNat:Nat)):Int):=by
  rw [IntKind.wrap_u64,IntKind.wrap_u64]
  omega
 have h3:(1:Int)=((1:Nat):Int):=rfl
 rw [h1,h3,bits_or_u64_nat _ _ (by omega) (by decide)]
 have h2:=Nat.two_pow_add_eq_or_of_lt (i:=2) (b:=1) (by decide) (n % 4611686018427387904).toNat
 rw [show (2:Nat) ^ 2=4 from rfl] at h2
 rw [←h2]
 unfold enc
 omega
theorem enc_and (n:Int):bits BinOp.and IntKind.u64 (enc n) 3=1:=by
 have h1:enc n=(((enc n).toNat:Nat):Int):=by unfold enc;omega
 have h3:(3:Int)=((3:Nat):Int):=rfl
 rw [h1,h3,bits_and_u64_nat _ _ (by unfold enc;omega) (by decide)]
 have h2:=Nat.and_two_pow_sub_one_eq_mod (enc n).toNat 2
 rw [show 2 ^ 2 -1=3 from rfl,show 2 ^ 2=4 from rfl] at h2
 rw [h2]
 unfold enc
 omega
theorem enc_dec {n:Int} (h:Q62 n):wrap64 (enc n) / 4=n:=by
 have:=h.1
 have:=h.2
 unfold wrap64 enc
 omega
set_option maxRecDepth 100000 in
set_option maxHeartbeats 1000000 in
theorem wordWrap_any (n:Int) (w:World):Calls Tryz.prog 148 #[.int .i64 n] w fun e w'=>e= .returned (.int .i64 (Co.wrap n))∧w'=w:=by
 have HE:=Lib.hid (wrap_eq n)
 go_enter Tryz.func148,Tryz.ntmps148
 go_wp2_with fail
 go_ret
 rw [←HE.out]
 exact⟨rfl,rfl⟩
set_option maxRecDepth 100000 in
set_option maxHeartbeats 1000000 in
theorem fromInt_any (n:Int) (h:Q62 n) (w:World):Calls Tryz.prog 101 #[.int .i64 n] w fun e w'=>e= .returned (.tuple #[.int .u64 (enc n),.int .i64 0])∧w'=w:=by
 have HK:=Lib.hid (wordWrap_any n w)
 rw [wrap62 h] at HK
 have HE:=Lib.hid (enc_or n)
 go_enter Tryz.func101,Tryz.ntmps101
 go_wp2_with fail
 refine HK.out.mono ?_
 rintro e w' ⟨rfl,rfl⟩
 go_wp2_with fail
 go_ret2
 rw [HE.out]
 exact⟨rfl,rfl⟩
set_option maxRecDepth 100000 in
set_option maxHeartbeats 1000000 in
theorem int_any (n:Int) (h:Q62 n) (w:World):Calls Tryz.prog 105 #[.int .u64 (enc n)] w fun e w'=>e= .returned (.tuple #[.int .i64 n,.bool true])∧w'=w:=by
 have hb:(bits BinOp.and IntKind.u64 (enc n) 3 != 1)=false:=by rw [enc_and];rfl
 have HD:=Lib.hid (enc_dec h)
 obtain⟨X,hX⟩:∃X,enc n=X:=⟨_,rfl⟩
 rw [hX] at hb HD ⊢
 go_enter Tryz.func105,Tryz.ntmps105
 go_wp2_with fail
 go_ret2
 rw [HD.out]
 exact⟨rfl,rfl⟩
theorem int_zero (w:World):Calls Tryz.prog 105 #[.int .u64 0] w fun e w'=>e= .returned (.tuple #[.int .i64 0,.bool false])∧w'=w:=by
 have hb:(bits BinOp.and IntKind.u64 0 3 != 1)=true:=by decide
 go_enter Tryz.func105,Tryz.ntmps105
 go_wp2_with fail
 go_ret2
 exact⟨rfl,rfl⟩
set_option maxRecDepth 100000 in
set_option maxHeartbeats 2000000 in
theorem apply_ok (F:Nat) (cap:Array Value) (x y n:Int) (hx:Q62 x) (hy:Q62 y) (R:World→Prop) (w:World) (hent:∀args W,(callFunc F args).run Tryz.prog W= .ok (.enter F args) W)
 (H:Calls Tryz.prog F (#[.int .i64 x,.int .i64 y]++cap) w fun e w'=>e= .returned (.tuple #[.int .i64 n,.int .i64 0])∧R w'):
 Calls Tryz.prog 155 #[.int .u64 (enc x),.int .u64 (enc y),.func (.func F) #[] cap] w fun e w'=>e= .returned (.tuple #[.int .u64 (enc (Co.wrap n)),.int .i64 0])∧R w':=by
 have K1:=Lib.hid (int_any x hx w)
 have K2:=Lib.hid (int_any y hy w)
 have K3:Hid (∀w,Calls Tryz.prog 148 #[.int .i64 n] w fun e w'=>e= .returned (.int .i64 (Co.wrap n))∧w'=w):=Lib.hid (wordWrap_any n)
 have K4:Hid (∀w,Calls Tryz.prog 101 #[.int .i64 (Co.wrap n)] w fun e w'=>e= .returned (.tuple #[.int .u64 (enc (Co.wrap n)),.int .i64 0])∧w'=w):=Lib.hid (fromInt_any _ (q62_wrap n))
 have HH:=Lib.hid H
 clear H
 obtain⟨X,hX⟩:∃X,enc x=X:=⟨_,rfl⟩
 obtain⟨Y,hY⟩:∃X,enc y=X:=⟨_,rfl⟩
 obtain⟨M,hM⟩:∃X,Co.wrap n=X:=⟨_,rfl⟩
 obtain⟨Z,hZ⟩:∃X,enc M=X:=⟨_,rfl⟩
 rw [hX] at K1 ⊢
 rw [hY] at K2 ⊢
 rw [hM] at K3 K4 ⊢
 rw [hZ] at K4 ⊢
 clear hX hY hM hZ
 go_enter Tryz.func155,Tryz.ntmps155
 go_wp2_with fail
 refine K1.out.mono ?_
 rintro e w' ⟨rfl,rfl⟩
 go_wp2_with fail
 refine K2.out.mono ?_
 rintro e w' ⟨rfl,rfl⟩
 go_wp2_with fail
 refine HH.out.mono ?_
 rintro e w2 ⟨rfl,hR⟩
 go_wp2_with fail
 refine(K3.out _).mono ?_
 rintro e w' ⟨rfl,rfl⟩
 go_wp2_with fail
 refine(K4.out _).mono ?_
 rintro e w' ⟨rfl,rfl⟩
 go_wp2_with fail
 go_ret2
 exact⟨rfl,hR⟩
end Cw
end Go.Proofs.YtcnmfcgmnkncaaaGreatDoor
