/-
  CoExpr, CoBlock.
-/
import Derived.Test.YtcnmfcgmnkncaaaGreatDoorX13
set_option maxRecDepth 100000
set_option maxHeartbeats 40000000
open Go.Proofs.Tryz
namespace Go.Proofs.YtcnmfcgmnkncaaaGreatDoor
section
namespace Cw
open Go.RowKit Go.Maps Pw
section
variable {B0 gb:Nat} {cs:List Tr.C} {cl:Tr.C} {pv fv mv:Value} {g:Co.G} {cv nv vv:Value} {w W:World} {o0:List Nat} {bs:List Bk} {os:List (World->Prop)}
theorem Mg.under (h:Mg B0 gb cs cl pv fv mv w o0 g cv nv vv bs os W) (i:Nat) {b oo N c:Nat} {l:List Tr.E} (hi:os[i]? =some (RE (.slice (some ⟨b,oo,none⟩) N c) l)) {j:Nat} {x:Tr.E} (hx:l[j]? =some x):
 ∃pa ca,Hid (Mg B0 gb cs cl pv fv mv w o0 g cv nv vv bs (CE b (oo+j*6) x (.slice pa x.args.length ca)::RE (.slice pa x.args.length ca) x.args::os) W)/\Hid (BdE x):=by
 obtain⟨b',oo',aa,hp,hb,hc,hbd,hs⟩:=SlE.get (h.o i hi) hx;cases hp;obtain⟨pa,ca,rfl,_⟩:=hs.form;exact⟨pa,ca,zh ((h.get re_mn hs).get ce_mn hc),zh hbd⟩
end
theorem gE_1 (cs:List Tr.C) (fs:List BA) (g:Co.G) {o i:Int} {nm:BA} {a:Bool} {l:List Tr.E} (h:Co.const (.mk 1 o i nm a l)=none):Co.gE cs fs g (.mk 1 o i nm a l)=Co.emit g 1 0 0 0 1:=by
 rw [Co.gE,h]
 rfl
theorem gE_2 (cs:List Tr.C) (fs:List BA) (g:Co.G) {o i:Int} {nm:BA} {a:Bool} {l:List Tr.E} (h:Co.const (.mk 2 o i nm a l)=none):Co.gE cs fs g (.mk 2 o i nm a l)=Co.emit g 2 0 0 0 1:=by
 rw [Co.gE,h]
 rfl
theorem gE_3 (cs:List Tr.C) (fs:List BA) (g:Co.G) {o i:Int} {nm:BA} {a:Bool} {l:List Tr.E} (h:Co.const (.mk 3 o i nm a l)=none):Co.gE cs fs g (.mk 3 o i nm a l)=Co.emit g 3 (Co.zBG g nm) 0 0 1:=by
 rw [Co.gE,h]
 rfl
theorem gE_6 (cs:List Tr.C) (fs:List BA) (g:Co.G) {o i:Int} {nm:BA} {a:Bool} {l:List Tr.E} (h:Co.const (.mk 6 o i nm a l)=none):Co.gE cs fs g (.mk 6 o i nm a l)=Co.emit (Co.gEs cs fs g l) 12 0 0 1 1:=by
 rw [Co.gE,h]
 rfl
theorem gE_7 (cs:List Tr.C) (fs:List BA) (g:Co.G) {o i:Int} {nm:BA} {a:Bool} {l:List Tr.E} (h:Co.const (.mk 7 o i nm a l)=none):Co.gE cs fs g (.mk 7 o i nm a l)=Co.emit (Co.gEs cs fs g l) 13 0 0 1 1:=by
 rw [Co.gE,h]
 rfl
theorem gE_8 (cs:List Tr.C) (fs:List BA) (g:Co.G) {o i:Int} {nm:BA} {a:Bool} {l:List Tr.E} (h:Co.const (.mk 8 o i nm a l)=none):Co.gE cs fs g (.mk 8 o i nm a l)=Co.emit (Co.gEs cs fs g l) 14 0 0 1 1:=by
 rw [Co.gE,h]
 rfl
theorem gE_9 (cs:List Tr.C) (fs:List BA) (g:Co.G) {o i:Int} {nm:BA} {a:Bool} {l:List Tr.E} (h:Co.const (.mk 9 o i nm a l)=none):Co.gE cs fs g (.mk 9 o i nm a l)=Co.emit (Co.gEs cs fs g l) 15 0 0 1 1:=by
 rw [Co.gE,h]
 rfl
theorem gE_4 (cs:List Tr.C) (fs:List BA) (g:Co.G) {o i:Int} {nm:BA} {a:Bool} {l:List Tr.E} (h:Co.const (.mk 4 o i nm a l)=none):Co.gE cs fs g (.mk 4 o i nm a l)=(if Ck.zA9 l=2 then Co.emit g 7 (Co.idx fs nm) 0 0 1 else Co.emit (Co.name (Co.gEs cs fs g l) nm).1 6 (Co.name (Co.gEs cs fs g l) nm).2 0 1 1):=by
 rw [Co.gE,h]
 rfl
theorem gE_5 (cs:List Tr.C) (fs:List BA) (g:Co.G) {o i:Int} {nm:BA} {a:Bool} {l:List Tr.E} (h:Co.const (.mk 5 o i nm a l)=none):Co.gE cs fs g (.mk 5 o i nm a l)=(if a then Co.emit (Co.gEs cs fs g l) 11 ((((Ck.zAB cs nm).getD 0:Nat):Int)+1) ((l.length:Int) - 1) l.length 1 else Co.emit (Co.gEs cs fs g l) 10 ((((Ck.zAB cs nm).getD 0:Nat):Int)+1) l.length l.length 1):=by
 rw [Co.gE,h];cases a<;>rfl
theorem gE_10 (cs:List Tr.C) (fs:List BA) (g:Co.G) {o i:Int} {nm:BA} {a:Bool} {l:List Tr.E} (h:Co.const (.mk 10 o i nm a l)=none):Co.gE cs fs g (.mk 10 o i nm a l)=(if o=11 then Co.gL cs fs g 19 0 l else if o=12 then Co.gL cs fs g 20 1 l else Co.emit (Co.gEs cs fs g l) 16 o 0 2 1):=by
 rw [Co.gE,h]
 rfl
theorem gE_c (cs:List Tr.C) (fs:List BA) (g:Co.G) {k o i n:Int} {nm:BA} {a:Bool} {l:List Tr.E} (h:Co.const (.mk k o i nm a l)=some n):Co.gE cs fs g (.mk k o i nm a l)=Co.emit g 0 n 0 0 1:=by
 rw [Co.gE,h]
theorem kinds {k o i:Int} {nm:BA} {a:Bool} {n:Nat} (h:Tr.okE k o i nm a n=true) (h0:k≠0):k=1\/k=2\/k=3\/k=4\/k=5\/k=6\/k=7\/k=8\/k=9\/k=10:=by
 by_cases h1:k=1;exact .inl h1;by_cases h2:k=2;exact .inr (.inl h2);by_cases h3:k=3;exact .inr (.inr (.inl h3));by_cases h4:k=4;exact .inr (.inr (.inr (.inl h4)));by_cases h5:k=5;exact .inr (.inr (.inr (.inr (.inl h5))));by_cases h6:k=6;exact .inr (.inr (.inr (.inr (.inr (.inl h6)))));by_cases h7:k=7;exact .inr (.inr (.inr (.inr (.inr (.inr (.inl h7))))));by_cases h8:k=8;exact .inr (.inr (.inr (.inr (.inr (.inr (.inr (.inl h8)))))));by_cases h9:k=9;exact .inr (.inr (.inr (.inr (.inr (.inr (.inr (.inr (.inl h9))))))));by_cases h10:k=10;exact .inr (.inr (.inr (.inr (.inr (.inr (.inr (.inr (.inr h10))))))));unfold Tr.okE at h;rw [kC h0,kC h1,kC h2,kC h3,kC h4,kC h5,kC h6,kC h7,kC h8,kC h9,kC h10] at h;simp at h
theorem zHT {k o i:Int} {nm:BA} {a:Bool} {l:List Tr.E} (h:Tr.okE k o i nm a l.length=true) (hk:k=4\/k=6\/k=7\/k=8\/k=9):∃x,l= [x]:=by
 have h1:l.length=1:=by
  unfold Tr.okE at h;rcases hk with rfl|rfl|rfl|rfl|rfl<;>(simp at h;omega)
 match l,h1 with
 | [x],_=>exact ⟨x,rfl⟩
theorem zT5 {cs:List Tr.C} {nm:BA}:(Ck.zAB cs nm).getD 0<=cs.length -1:=by
 cases h:Ck.zAB cs nm with
 |none=>exact kO _
 |some i=>
  have h2:i<cs.length:=by unfold Ck.zAB at h;exact(List.findIdx?_eq_some_iff_getElem.1 h).1
  show i<=_
  omega
theorem expr_any {B0 gb:Nat} {cs:List Tr.C} {cl:Tr.C} {pv fv mv:Value}:∀(d:Nat),EC B0 gb cs cl pv fv mv d:=by
 intro d
 induction d with
 |zero=>intro e g cv nv vv w a n hd;have:=e.deep_pos;omega
 |succ d ih=>
  intro e g cv nv vv w a n hd hv hbe h hB hbd hS;obtain⟨X,hX⟩:∃q,Co.gE cs cl.fields g e=q:=⟨_,rfl⟩;rw [hX];obtain⟨k,o,i,nm,at_,l⟩:=e;have hvl:=(Co.zN hv).1;have hok:=(Co.zN hv).2;have HBD:Hid (Co.Bd n g/\n<=900000):=zh ⟨hbd.1,by have:=hbd.2;omega⟩;have hbd2:Co.Bd n g/\n+Co.wE (.mk k o i nm at_ l)<=900000:=hbd;rw [Co.wE] at hbd2;have HT:Hid (n+(16+l.length+Co.wEs l)<=900000):=zh hbd2.2;have hS2:SlE (hide (upL 0 (owl gb cv nv vv)) w) a l:=hS;obtain⟨p,c,rfl,_⟩:=hS2.form;have HNM:Hid (nm.size<=maxLen):=zh hbe.name;have HCO:=zh (fun (w1:World) (h1:SlE w1 (.slice p l.length c) l)=>zD9 (.mk k o i nm at_ l) (.slice p l.length c) w1 hbe h1 (by intro hk8 e9;have e9:l= []:=e9;have hk8:k=8:=hk8;subst hk8;subst e9;unfold Tr.okE at hok;simp at hok));obtain⟨N,hN⟩:∃q,l.length=q:=⟨_,rfl⟩;have hNB:N<=900000:=by have:=HT.out;omega
  have hcsl:=h.pcw.len;unfold maxLen at hcsl;have hcls:=zT5 (cs:=cs) (nm:=nm);have HK0:Hid (Co.const (.mk k o i nm at_ l)=none->k≠0):=zh (fun h1 h2=>by subst h2;unfold Co.const at h1;simp at h1);have HEA:=zh ih;have HD:Hid ((Tr.E.mk k o i nm at_ l).deep<=d+1):=zh hd;have HV:Hid (Tr.zE (.mk k o i nm at_ l)=true):=zh hv;have HVA:=zh hvl;have HOK:=zh hok;have HL:=zh hN;have HS2:=zh hS2;have C0:=zh (Mg.start (os:= [RE (.slice p l.length c) l]) h hB (fun r hr=>by rw [kT.1 hr];exact⟨re_mn,HS2⟩));rw [hN] at HCO C0;clear h hB hbd hbd2 ih hS hd hv hS2 hvl hok hbe HS2;unfold zK at HCO |-;simp only [Tr.E.kind,Tr.E.op,Tr.E.int,Tr.E.name,Tr.E.at_] at HCO |-;rw [hN];clear hN;have HX:=zh hX;clear hX;obtain⟨G,w1,HX1,HW1,hx1,C1⟩:=C0.boxE #[.pointer (some ⟨gb,0,none⟩)] 101;obtain⟨E,w2,HX2,HW2,hx2,C2⟩:=C1.boxE #[.int .i64 k,.int .i64 o,.int .i64 i,.string nm,.bool at_,.slice p N c] 37;have HY2:Hid (E=G+1):=zh (by rw [HX2.out,HW1.out,HX1.out];simp);go_in;go_upto_region 1 with fail;rw [<-HX1.out,<-HW1.out,<-HY2.out,<-HW2.out];clear HX1 HW1 C0 HY2 HX2 HW2 C1;have q0:=zF (C2.b 0 rfl);go_wp2_with fail;clear q0;refine(HCO w2 (SlE.inc (Mg.sight C2 0 rfl) zBL)).mono ?_;rintro e w3 ⟨rfl,hb⟩;have C4:=zh (C2.below hb);clear C2;clear hb HCO;cases hc0:Co.const (.mk k o i nm at_ l) with
  |some v0=>
   simp only [Option.getD_some,Option.isSome_some];have hx9:=HX.out;rw [gE_c cs cl.fields g hc0] at hx9;have HX:=zh hx9;clear hx9 hc0;have q1:=zS (C4.b 1 rfl);go_wp2_with fail;refine(zQX C4.q (kG C4.hB C4.le) HBD 0 v0 0 0 1 ⟨by omega,by omega⟩ ⟨by omega,by omega⟩).mono ?_;rintro e w5 hp5;obtain⟨rfl,cv5,nv5,vv5,C5⟩:=Mg.done C4 hp5;clear hp5 C4;clear q1;go_wp2_with fail;go_end0;have h9:=Mg.fin C5.out;rw [HX.out] at h9;exact h9
  |none=>
   simp only [Option.getD_none,Option.isSome_none];have HC0:=zh hc0;rcases kinds HOK (HK0 hc0) with hk|hk|hk|hk|hk|hk|hk|hk|hk|hk
   ·subst hk;have hx9:=HX.out;rw [gE_1 cs cl.fields g hc0] at hx9;have HX:=zh hx9;clear hx9 hc0;have q1:=zS (C4.b 1 rfl);have q0:=zF (C4.b 0 rfl);go_wp2_with fail;clear q1 q0;refine(zAO C4.q (kG C4.hB C4.le) HBD (1) (0) (0) (0) (1) ⟨by omega,by omega⟩ ⟨by omega,by omega⟩).mono ?_;rintro e w6 hp6;obtain⟨rfl,cv6,nv6,vv6,C6⟩:=Mg.done C4 hp6;clear hp6 C4;have HB7:Hid (Co.Bd (n+1+1) (Co.emit (g) (1) (0) (0) (0) (1))/\n+1+1<=900000):=zh ⟨HBD.1.em (m:=1) ⟨by omega,by omega⟩ ⟨by omega,by omega⟩,by have h9:=HT.out;omega⟩;clear HBD;go_wp2_with fail;go_end0;have h9:=Mg.fin C6.out;rw [HX.out] at h9;exact h9
   ·subst hk;have hx9:=HX.out;rw [gE_2 cs cl.fields g hc0] at hx9;have HX:=zh hx9;clear hx9 hc0;have q1:=zS (C4.b 1 rfl);have q0:=zF (C4.b 0 rfl);go_wp2_with fail;clear q1 q0;refine(zAO C4.q (kG C4.hB C4.le) HBD (2) (0) (0) (0) (1) ⟨by omega,by omega⟩ ⟨by omega,by omega⟩).mono ?_;rintro e w8 hp8;obtain⟨rfl,cv8,nv8,vv8,C8⟩:=Mg.done C4 hp8;clear hp8 C4;have HB9:Hid (Co.Bd (n+1+1) (Co.emit (g) (2) (0) (0) (0) (1))/\n+1+1<=900000):=zh ⟨HBD.1.em (m:=1) ⟨by omega,by omega⟩ ⟨by omega,by omega⟩,by have h9:=HT.out;omega⟩;clear HBD;go_wp2_with fail;go_end0;have h9:=Mg.fin C8.out;rw [HX.out] at h9;exact h9
   ·subst hk;have hx9:=HX.out;rw [gE_3 cs cl.fields g hc0] at hx9;have HX:=zh hx9;clear hx9 hc0;have q1:=zS (C4.b 1 rfl);have q0:=zF (C4.b 0 rfl);go_upto_region 11 with fail;clear q1 q0;obtain⟨LV,hLV⟩:∃q,Co.zBG g nm=q:=⟨_,rfl⟩;have HLV:=zh hLV;rw [hLV] at HX;clear hLV;obtain⟨w10,HW,C10⟩:=C4.drewE;refine wp_region_held_drew (S:=fun W=>W.cell? ⟨G,0,none⟩=some (.pointer (some ⟨gb,0,none⟩))/\W.cell? ⟨E,3,none⟩=some (.string nm)) (by kernel_rfl) (by rw [<-HW.out];exact⟨zB (C10.b 1 rfl) (j:=0) rfl,zB (C10.b 0 rfl) (j:=3) rfl⟩) (fun hH=>?_);rw [<-HW.out] at hH |-;clear HW C4;refine rU 0 (some 33) ?_;refine rU 1 (some 34) ?_;refine rU 2 (some 35) ?_;refine rU 3 (some 36) ?_;refine rR1 4 (some 37) (fun K hK=>?_);go_simp;clear hH;refine(zLM C10.q (by have:=HBD.1.vars;have:=HBD.2;omega) nm).mono ?_;rintro e w11 ⟨rfl,hb⟩;have C12:=zh (C10.below hb);clear C10;clear hb;rw [HLV.out];go_wp2;refine hK _ _ ?_ (fun hH=>?_)
    ·exact⟨zB (C12.b 1 rfl) (j:=0) rfl,zB (C12.b 0 rfl) (j:=3) rfl⟩
    clear hK K
    try simp only [Act.put,q0,q1,q2]
    refine rR1 5 (some 38) (fun K hK=>?_);go_simp;clear hH;refine(zAO C12.q (kG C12.hB C12.le) HBD (3) (LV) (0) (0) (1) ⟨by omega,by omega⟩ ⟨by omega,by omega⟩).mono ?_;rintro e w13 hp13;obtain⟨rfl,cv13,nv13,vv13,C13⟩:=Mg.done C12 hp13;clear hp13 C12;have HB14:Hid (Co.Bd (n+1+1) (Co.emit (g) (3) (LV) (0) (0) (1))/\n+1+1<=900000):=zh ⟨HBD.1.em (m:=1) ⟨by omega,by omega⟩ ⟨by omega,by omega⟩,by have h9:=HT.out;omega⟩;clear HBD;go_wp2;refine hK _ _ ?_ (fun hH=>?_)
    ·exact⟨zB (C13.b 1 rfl) (j:=0) rfl,zB (C13.b 0 rfl) (j:=3) rfl⟩
    clear hK K
    try simp only [Act.put,q0,q1,q2]
    refine wpAnyH_done (by kernel_rfl) ?_ _;clear hH;go_wp2_with fail;go_end0;have h9:=Mg.fin C13.out;rw [HX.out] at h9;exact h9
   ·subst hk;have hx9:=HX.out;rw [gE_4 cs cl.fields g hc0] at hx9;have HX:=zh hx9;clear hx9 hc0;obtain⟨x,rfl⟩:=zHT HOK (by omega);obtain rfl:N=1:=HL.symm;have HVX:Hid (Tr.zE x=true):=zh (zH HVA (j:=0) (e:=x) rfl);have HDX:Hid (x.deep<=d):=zh (Tr.E.deep_args HD (j:=0) (x:=x) rfl);have HTX:Hid (n+Co.wE x+17<=900000):=zh (by have h9:=HT.out;rw [Co.wEs,Co.wEs] at h9;simp only [kI,kQ] at h9;omega);obtain⟨b,oo,hp,_,pa,ca,_⟩:=Mg.elem C4 0 rfl (j:=0) (x:=x) rfl;subst hp;obtain⟨b2,oo2,hp2,hlb,pa,ca,hce,hbx,hsx⟩:=Mg.elem C4 0 rfl (j:=0) (x:=x) rfl;cases hp2;obtain⟨AN,hAN⟩:∃q,x.args.length=q:=⟨_,rfl⟩;rw [hAN] at hce hsx;have hce2:=(Mg.sight C4 0 rfl).get (j:=0) (e:=x) rfl;clear hsx hbx;obtain⟨x0,x1,x2,x3,x4,x5⟩:=hce;simp only [Nat.zero_mul,Nat.add_zero] at x0 x1 x2 x3 x4 x5;clear hce2 hAN;by_cases hx2:x.kind=2
    ·have hx9:=HX.out;rw [kD (show Ck.zA9 [x]=2 from hx2)] at hx9;have HX:=zh hx9;clear hx9;rw [hx2] at x0;have q1:=zS (C4.b 1 rfl);have q0:=zF (C4.b 0 rfl);go_upto_region 14 with fail;clear q1 q0 x0 x1 x2 x3 x4 x5 hlb;obtain⟨IV,hIV⟩:∃q,Co.idx cl.fields nm=q:=⟨_,rfl⟩;have HIV:=zh hIV;rw [hIV] at HX;clear hIV;obtain⟨w15,HW,C15⟩:=C4.drewE;refine wp_region_held_drew (S:=fun W=>W.cell? ⟨G,0,none⟩=some (.pointer (some ⟨gb,0,none⟩))/\W.cell? ⟨E,3,none⟩=some (.string nm)/\W.cell? ⟨gb,3,none⟩=some (fv)) (by kernel_rfl) (by rw [<-HW.out];exact⟨zB (C15.b 1 rfl) (j:=0) rfl,zB (C15.b 0 rfl) (j:=3) rfl,zA0 C15.q (j:=3) rfl⟩) (fun hH=>?_);rw [<-HW.out] at hH |-;clear HW C4;refine rU 0 (some 47) ?_;refine rU 1 (some 48) ?_;refine rU 2 (some 49) ?_;refine rU 3 (some 50) ?_;refine rU 4 (some 51) ?_;refine rU 5 (some 52) ?_;refine rU 6 (some 53) ?_;refine rU 7 (some 54) ?_;refine rR1 8 (some 55) (fun K hK=>?_);go_simp;clear hH;refine(zH6 nm fv cl.fields w15 C15.q.fcw).mono ?_;rintro e w' ⟨rfl,hww⟩;rw [hww,HIV.out];clear hww w';go_wp2;refine hK _ _ ?_ (fun hH=>?_)
     ·exact⟨zB (C15.b 1 rfl) (j:=0) rfl,zB (C15.b 0 rfl) (j:=3) rfl,zA0 C15.q (j:=3) rfl⟩
     clear hK K
     try simp only [Act.put,q0,q1,q2]
     refine rR1 9 (some 56) (fun K hK=>?_);go_simp;clear hH;refine(zAO C15.q (kG C15.hB C15.le) HBD (7) (IV) (0) (0) (1) ⟨by omega,by omega⟩ ⟨by omega,by omega⟩).mono ?_;rintro e w17 hp17;obtain⟨rfl,cv17,nv17,vv17,C17⟩:=Mg.done C15 hp17;clear hp17 C15;have HB18:Hid (Co.Bd (n+1+1) (Co.emit (g) (7) (IV) (0) (0) (1))/\n+1+1<=900000):=zh ⟨HBD.1.em (m:=1) ⟨by omega,by omega⟩ ⟨by omega,by omega⟩,by have h9:=HT.out;omega⟩;clear HBD;go_wp2;refine hK _ _ ?_ (fun hH=>?_)
     ·exact⟨zB (C17.b 1 rfl) (j:=0) rfl,zB (C17.b 0 rfl) (j:=3) rfl,zA0 C17.q (j:=3) rfl⟩
     clear hK K
     try simp only [Act.put,q0,q1,q2]
     refine wpAnyH_done (by kernel_rfl) ?_ _;clear hH;go_wp2_with fail;go_end0;have h9:=Mg.fin C17.out;rw [HX.out] at h9;exact h9
    ·have hx9:=HX.out;rw [kC (show ¬Ck.zA9 [x]=2 from hx2),Co.gEs,Co.gEs] at hx9;have HX:=zh hx9;clear hx9;have hxb:(x.kind == 2)=false:=kA.2 hx2;have q1:=zS (C4.b 1 rfl);have q0:=zF (C4.b 0 rfl);go_upto_region 15 with fail;clear q1 q0 x0 x1 x2 x3 x4 x5 hlb hxb;obtain⟨pa2,ca2,C19,HBX⟩:=Mg.under C4 0 rfl (j:=0) (x:=x) rfl;clear C4;simp only [Nat.zero_mul,Nat.add_zero] at C19;obtain⟨AN,hAN⟩:∃q,x.args.length=q:=⟨_,rfl⟩;rw [hAN] at C19;have HAN:=zh hAN;clear hAN;have HTO:=HT;clear HT;have HT:=HTX;obtain⟨w20,HW,C20⟩:=C19.drewE;refine wp_region_held_drew (S:=fun W=>W.cell? ⟨G,0,none⟩=some (.pointer (some ⟨gb,0,none⟩))/\W.cell? ⟨E,5,none⟩=some (.slice (some ⟨b,oo,none⟩) 1 c)/\W.cell? ⟨b,oo,none⟩=some (.int .i64 x.kind)/\W.cell? ⟨b,oo+1,none⟩=some (.int .i64 x.op)/\W.cell? ⟨b,oo+2,none⟩=some (.int .i64 x.int)/\W.cell? ⟨b,oo+3,none⟩=some (.string x.name)/\W.cell? ⟨b,oo+4,none⟩=some (.bool x.at_)/\W.cell? ⟨b,oo+5,none⟩=some (.slice pa2 AN ca2)) (by kernel_rfl) (by rw [<-HW.out];exact⟨zB (C20.b 1 rfl) (j:=0) rfl,zB (C20.b 0 rfl) (j:=5) rfl,C20.rd 0 rfl⟩) (fun hH=>?_);rw [<-HW.out] at hH |-;clear HW C19;refine rU 0 (some 57) ?_;refine rU 1 (some 58) ?_;refine rU 2 (some 59) ?_;refine rU 3 (some 60) ?_;refine rU 4 (some 61) ?_;refine rR1 5 (some 62) (fun K hK=>?_);go_simp;clear hH;have hce9:=HEA x _ _ _ _ w20 (.slice pa2 AN ca2) _ HDX HVX HBX C20.q (kG C20.hB C20.le) ⟨HBD.1,by have:=HTX.out;omega⟩ (Mg.sight C20 1 rfl);unfold zK at hce9;refine hce9.mono ?_;clear hce9;rintro e w21 hp21;obtain⟨rfl,cv21,nv21,vv21,C21⟩:=Mg.done C20 hp21;clear hp21 C20;have HB22:Hid (Co.Bd (n+Co.wE x) (Co.gE cs cl.fields (g) x)/\n+Co.wE x<=900000):=zh ⟨Co.gE_bd cs cl.fields _ _ x HBD.1,by have h9:=HT.out;omega⟩;clear HBD;go_wp2;refine hK _ _ ?_ (fun hH=>?_)
     ·exact⟨zB (C21.b 1 rfl) (j:=0) rfl,zB (C21.b 0 rfl) (j:=5) rfl,C21.rd 0 rfl⟩
     clear hK K
     try simp only [Act.put,q0,q1,q2]
     refine wpAnyH_done (by kernel_rfl) ?_ _;clear hH;go_upto_region 16 with fail;obtain⟨g9,hg9⟩:∃q,Co.name (Co.gE cs cl.fields (g) x) nm=q:=⟨_,rfl⟩;have HG9:=zh hg9;rw [hg9] at HX;clear hg9;obtain⟨w23,HW,C23⟩:=C21.drewE;refine wp_region_held_drew (S:=fun W=>W.cell? ⟨G,0,none⟩=some (.pointer (some ⟨gb,0,none⟩))/\W.cell? ⟨E,3,none⟩=some (.string nm)) (by kernel_rfl) (by rw [<-HW.out];exact⟨zB (C23.b 1 rfl) (j:=0) rfl,zB (C23.b 0 rfl) (j:=3) rfl⟩) (fun hH=>?_);rw [<-HW.out] at hH |-;clear HW C21;refine rU 0 (some 63) ?_;refine rU 1 (some 64) ?_;refine rU 2 (some 65) ?_;refine rU 3 (some 66) ?_;refine rR1 4 (some 67) (fun K hK=>?_);go_simp;clear hH;refine(name_any C23.q (kG C23.hB C23.le) HB22 nm HNM).mono ?_;rw [HG9.out];rintro e w24 hp24;obtain⟨rfl,cv24,nv24,vv24,C24⟩:=Mg.named C23 hp24;clear hp24 C23;have HB25:Hid (Co.Bd (n+Co.wE x+1) (g9.1)/\n+Co.wE x+1<=900000):=zh ⟨HG9.out▸HB22.1.name nm,by have h9:=HT.out;omega⟩;clear HB22;go_wp2;refine hK _ _ ?_ (fun hH=>?_)
     ·exact⟨zB (C24.b 1 rfl) (j:=0) rfl,zB (C24.b 0 rfl) (j:=3) rfl⟩
     clear hK K
     try simp only [Act.put,q0,q1,q2]
     refine rR1 5 (some 68) (fun K hK=>?_);go_simp;clear hH;refine(zAO C24.q (kG C24.hB C24.le) HB25 (6) ((g9.2:Int)) (0) (1) (1) ⟨by omega,by omega⟩ ⟨by omega,by omega⟩).mono ?_;rintro e w26 hp26;obtain⟨rfl,cv26,nv26,vv26,C26⟩:=Mg.done C24 hp26;clear hp26 C24;have HB27:Hid (Co.Bd (n+Co.wE x+1+1+1) (Co.emit (g9.1) (6) ((g9.2:Int)) (0) (1) (1))/\n+Co.wE x+1+1+1<=900000):=zh ⟨HB25.1.em (m:=1) ⟨by omega,by omega⟩ ⟨by omega,by omega⟩,by have h9:=HT.out;omega⟩;clear HB25;go_wp2;refine hK _ _ ?_ (fun hH=>?_)
     ·exact⟨zB (C26.b 1 rfl) (j:=0) rfl,zB (C26.b 0 rfl) (j:=3) rfl⟩
     clear hK K
     try simp only [Act.put,q0,q1,q2]
     refine wpAnyH_done (by kernel_rfl) ?_ _;clear hH;go_wp2_with fail;go_end0;have h9:=Mg.fin C26.out;rw [HX.out] at h9;exact h9
   ·subst hk;have hx9:=HX.out;rw [gE_5 cs cl.fields g hc0] at hx9;have HX:=zh hx9;clear hx9 hc0;obtain⟨CI,hCI⟩:∃q,(Ck.zAB cs nm).getD 0=q:=⟨_,rfl⟩;rw [hCI] at HX hcls;have HCI:=zh hCI;have HCL:Hid (CI<=9223372036854775806):=zh (by omega);clear hCI hcls hcsl;obtain⟨CB,hCB⟩:∃q,(Ck.zAB cs nm).isSome=q:=⟨_,rfl⟩;have HCB:=zh hCB;clear hCB;have q1:=zS (C4.b 1 rfl);have q0:=zF (C4.b 0 rfl);go_upto_region 18 with fail;clear q1 q0;obtain⟨w28,HW,C28⟩:=C4.drewE;refine wp_region_held_drew (S:=fun W=>W.cell? ⟨G,0,none⟩=some (.pointer (some ⟨gb,0,none⟩))/\W.cell? ⟨E,3,none⟩=some (.string nm)/\W.cell? ⟨gb,0,none⟩=some (pv)) (by kernel_rfl) (by rw [<-HW.out];exact⟨zB (C28.b 1 rfl) (j:=0) rfl,zB (C28.b 0 rfl) (j:=3) rfl,zA0 C28.q (j:=0) rfl⟩) (fun hH=>?_);rw [<-HW.out] at hH |-;clear HW C4;refine rU 0 (some 72) ?_;refine rU 1 (some 73) ?_;refine rU 2 (some 74) ?_;refine rU 3 (some 75) ?_;refine rU 4 (some 76) ?_;refine rU 5 (some 77) ?_;refine rR1 6 (some 78) (fun K hK=>?_);go_simp;clear hH;obtain⟨pp,pc,hpv⟩:∃a b,pv= .slice a cs.length b:=C28.q.pcw.form;have hcv:=zIJ nm cs pv w28 C28.q.pcw;rw [HCI.out,HCB.out] at hcv;clear hpv pp pc;refine(hcv).mono ?_;rintro e w29 ⟨rfl,hb⟩;have C30:=zh (C28.below hb);clear C28;clear hb;go_wp2;refine hK _ _ ?_ (fun hH=>?_)
    ·exact⟨zB (C30.b 1 rfl) (j:=0) rfl,zB (C30.b 0 rfl) (j:=3) rfl,zA0 C30.q (j:=0) rfl⟩
    clear hK K
    try simp only [Act.put,q0,q1,q2]
    refine rU 7 (some 71) ?_;refine rU 8 (some 79) ?_;refine rU 9 (some 80) ?_;refine rU 10 (some 7) ?_;refine rU 11 (some 8) ?_;refine wpAnyH_done (by kernel_rfl) ?_ _;clear hH;have q1:=zS (C30.b 1 rfl);have q0:=zF (C30.b 0 rfl);go_wp2_with fail;refine(Mg.eachE C30 0 rfl HEA (fun j x hx=>Tr.E.deep_args HD (j:=j) (x:=x) hx) HVA ⟨HBD.1,by have:=HT.out;omega⟩).mono ?_;rintro e w31 hp31;obtain⟨rfl,cv31,nv31,vv31,C31⟩:=Mg.done C30 hp31;clear hp31 C30;clear q1 q0;have HB32:Hid (Co.Bd (n+Co.wEs l) (Co.gEs cs cl.fields (g) l)/\n+Co.wEs l<=900000):=zh ⟨Co.zBX cs cl.fields _ _ l HBD.1,by have h9:=HT.out;omega⟩;clear HBD;have hl8:=HL.out;rw [hl8] at HX;have hci:=HCL.out;have hw1:wrap64 ((CI:Int)+1)=(CI:Int)+1:=by unfold wrap64;omega
    have hw2:wrap64 ((N:Int) - 1)=(N:Int) - 1:=by unfold wrap64;omega
    have HTN:Hid (n+Co.wEs l+N+16<=900000):=zh (by have:=HT.out;omega);clear HT hl8;have HT:=HTN;cases at_ with
    |true=>
     rw [kD rfl] at HX;have q1:=zS (C31.b 1 rfl);have q0:=zF (C31.b 0 rfl);go_wp2_with fail;refine(zAO C31.q (kG C31.hB C31.le) HB32 (11) ((CI:Int)+1) ((N:Int) - 1) ((N:Int)) (1) ⟨by omega,by omega⟩ ⟨by omega,by omega⟩).mono ?_;rintro e w33 hp33;obtain⟨rfl,cv33,nv33,vv33,C33⟩:=Mg.done C31 hp33;clear hp33 C31;have HB34:Hid (Co.Bd (n+Co.wEs l+N+1+1) (Co.emit (Co.gEs cs cl.fields (g) l) (11) ((CI:Int)+1) ((N:Int) - 1) ((N:Int)) (1))/\n+Co.wEs l+N+1+1<=900000):=zh ⟨HB32.1.em (m:=N+1) ⟨by omega,by omega⟩ ⟨by omega,by omega⟩,by have h9:=HT.out;omega⟩;clear HB32;go_wp2_with fail;go_end0;have h9:=Mg.fin C33.out;rw [HX.out] at h9;exact h9
    |false=>
     rw [kC (by decide)] at HX;have q1:=zS (C31.b 1 rfl);have q0:=zF (C31.b 0 rfl);go_wp2_with fail;refine(zAO C31.q (kG C31.hB C31.le) HB32 (10) ((CI:Int)+1) ((N:Int)) ((N:Int)) (1) ⟨by omega,by omega⟩ ⟨by omega,by omega⟩).mono ?_;rintro e w35 hp35;obtain⟨rfl,cv35,nv35,vv35,C35⟩:=Mg.done C31 hp35;clear hp35 C31;have HB36:Hid (Co.Bd (n+Co.wEs l+N+1+1) (Co.emit (Co.gEs cs cl.fields (g) l) (10) ((CI:Int)+1) ((N:Int)) ((N:Int)) (1))/\n+Co.wEs l+N+1+1<=900000):=zh ⟨HB32.1.em (m:=N+1) ⟨by omega,by omega⟩ ⟨by omega,by omega⟩,by have h9:=HT.out;omega⟩;clear HB32;go_wp2_with fail;go_end0;have h9:=Mg.fin C35.out;rw [HX.out] at h9;exact h9
   ·subst hk;have hx9:=HX.out;rw [gE_6 cs cl.fields g hc0] at hx9;have HX:=zh hx9;clear hx9 hc0;obtain⟨x,rfl⟩:=zHT HOK (by omega);obtain rfl:N=1:=HL.symm;have HVX:Hid (Tr.zE x=true):=zh (zH HVA (j:=0) (e:=x) rfl);have HDX:Hid (x.deep<=d):=zh (Tr.E.deep_args HD (j:=0) (x:=x) rfl);have HTX:Hid (n+Co.wE x+17<=900000):=zh (by have h9:=HT.out;rw [Co.wEs,Co.wEs] at h9;simp only [kI,kQ] at h9;omega);rw [Co.gEs,Co.gEs] at HX;have q1:=zS (C4.b 1 rfl);have q0:=zF (C4.b 0 rfl);go_wp2_with fail;clear q1 q0;refine(zNM HEA (l:= [x]) (x:=x) rfl HDX HVX C4.q (kG C4.hB C4.le) ⟨HBD.1,by have:=HTX.out;omega⟩ (by decide) (Mg.sight C4 0 rfl) (zB (C4.b 1 rfl) (j:=0) rfl) (C4.lts (q:=G) (by simp)).2.2 (zB (C4.b 0 rfl) (j:=5) rfl) (C4.lts (q:=E) (by simp)).2.2 12).mono ?_;rintro e w37 hp37;obtain⟨rfl,cv37,nv37,vv37,C37⟩:=Mg.done C4 hp37;clear hp37 C4;go_wp2_with fail;go_end0;have h9:=Mg.fin C37.out;rw [HX.out] at h9;exact h9
   ·subst hk;have hx9:=HX.out;rw [gE_7 cs cl.fields g hc0] at hx9;have HX:=zh hx9;clear hx9 hc0;obtain⟨x,rfl⟩:=zHT HOK (by omega);obtain rfl:N=1:=HL.symm;have HVX:Hid (Tr.zE x=true):=zh (zH HVA (j:=0) (e:=x) rfl);have HDX:Hid (x.deep<=d):=zh (Tr.E.deep_args HD (j:=0) (x:=x) rfl);have HTX:Hid (n+Co.wE x+17<=900000):=zh (by have h9:=HT.out;rw [Co.wEs,Co.wEs] at h9;simp only [kI,kQ] at h9;omega);rw [Co.gEs,Co.gEs] at HX;have q1:=zS (C4.b 1 rfl);have q0:=zF (C4.b 0 rfl);go_wp2_with fail;clear q1 q0;refine(zNM HEA (l:= [x]) (x:=x) rfl HDX HVX C4.q (kG C4.hB C4.le) ⟨HBD.1,by have:=HTX.out;omega⟩ (by decide) (Mg.sight C4 0 rfl) (zB (C4.b 1 rfl) (j:=0) rfl) (C4.lts (q:=G) (by simp)).2.2 (zB (C4.b 0 rfl) (j:=5) rfl) (C4.lts (q:=E) (by simp)).2.2 13).mono ?_;rintro e w38 hp38;obtain⟨rfl,cv38,nv38,vv38,C38⟩:=Mg.done C4 hp38;clear hp38 C4;go_wp2_with fail;go_end0;have h9:=Mg.fin C38.out;rw [HX.out] at h9;exact h9
   ·subst hk;have hx9:=HX.out;rw [gE_8 cs cl.fields g hc0] at hx9;have HX:=zh hx9;clear hx9 hc0;obtain⟨x,rfl⟩:=zHT HOK (by omega);obtain rfl:N=1:=HL.symm;have HVX:Hid (Tr.zE x=true):=zh (zH HVA (j:=0) (e:=x) rfl);have HDX:Hid (x.deep<=d):=zh (Tr.E.deep_args HD (j:=0) (x:=x) rfl);have HTX:Hid (n+Co.wE x+17<=900000):=zh (by have h9:=HT.out;rw [Co.wEs,Co.wEs] at h9;simp only [kI,kQ] at h9;omega);rw [Co.gEs,Co.gEs] at HX;have q1:=zS (C4.b 1 rfl);have q0:=zF (C4.b 0 rfl);go_wp2_with fail;clear q1 q0;refine(zNM HEA (l:= [x]) (x:=x) rfl HDX HVX C4.q (kG C4.hB C4.le) ⟨HBD.1,by have:=HTX.out;omega⟩ (by decide) (Mg.sight C4 0 rfl) (zB (C4.b 1 rfl) (j:=0) rfl) (C4.lts (q:=G) (by simp)).2.2 (zB (C4.b 0 rfl) (j:=5) rfl) (C4.lts (q:=E) (by simp)).2.2 14).mono ?_;rintro e w39 hp39;obtain⟨rfl,cv39,nv39,vv39,C39⟩:=Mg.done C4 hp39;clear hp39 C4;go_wp2_with fail;go_end0;have h9:=Mg.fin C39.out;rw [HX.out] at h9;exact h9
   ·subst hk;have hx9:=HX.out;rw [gE_9 cs cl.fields g hc0] at hx9;have HX:=zh hx9;clear hx9 hc0;obtain⟨x,rfl⟩:=zHT HOK (by omega);obtain rfl:N=1:=HL.symm;have HVX:Hid (Tr.zE x=true):=zh (zH HVA (j:=0) (e:=x) rfl);have HDX:Hid (x.deep<=d):=zh (Tr.E.deep_args HD (j:=0) (x:=x) rfl);have HTX:Hid (n+Co.wE x+17<=900000):=zh (by have h9:=HT.out;rw [Co.wEs,Co.wEs] at h9;simp only [kI,kQ] at h9;omega);rw [Co.gEs,Co.gEs] at HX;have q1:=zS (C4.b 1 rfl);have q0:=zF (C4.b 0 rfl);go_wp2_with fail;clear q1 q0;refine(zNM HEA (l:= [x]) (x:=x) rfl HDX HVX C4.q (kG C4.hB C4.le) ⟨HBD.1,by have:=HTX.out;omega⟩ (by decide) (Mg.sight C4 0 rfl) (zB (C4.b 1 rfl) (j:=0) rfl) (C4.lts (q:=G) (by simp)).2.2 (zB (C4.b 0 rfl) (j:=5) rfl) (C4.lts (q:=E) (by simp)).2.2 15).mono ?_;rintro e w40 hp40;obtain⟨rfl,cv40,nv40,vv40,C40⟩:=Mg.done C4 hp40;clear hp40 C4;go_wp2_with fail;go_end0;have h9:=Mg.fin C40.out;rw [HX.out] at h9;exact h9
   ·subst hk;have hx9:=HX.out;rw [gE_10 cs cl.fields g hc0] at hx9;have HX:=zh hx9;clear hx9 hc0;have q1:=zS (C4.b 1 rfl);have q0:=zF (C4.b 0 rfl);go_wp2_with fail;clear q1 q0;have hbn:=zP1 HEA (.mk 10 o i nm at_ l) rfl HD HV C4.q (kG C4.hB C4.le) ⟨HBD.1,by have h9:=HT.out;show n+Co.wEs l+9<=900000;omega⟩ (.slice p N c) (Mg.sight C4 0 rfl);unfold zK at hbn;change Calls _ _ _ _ (GQ _ _ _ _ _ _ _ (if o=11 then Co.gL cs cl.fields g 19 0 l else if o=12 then Co.gL cs cl.fields g 20 1 l else Co.emit (Co.gEs cs cl.fields g l) 16 o 0 2 1) _ _ _ _) at hbn;rw [HX.out] at hbn;refine hbn.mono ?_;clear hbn;rintro e w41 hp41;obtain⟨rfl,cv41,nv41,vv41,C41⟩:=Mg.done C4 hp41;clear hp41 C4;go_wp2_with fail;go_end0;exact Mg.fin C41.out
end Cw
end
section
namespace Cw
open Go.RowKit Go.Maps Pw
def RS (a:Value) (l:List Tr.S):World->Prop:=fun W=>SlS W a l
theorem rs_mn {a:Value} {l:List Tr.S}:Mn (RS a l):=fun _ _ hi h=>SlS.inc h hi
def BC (B0 gb:Nat) (cs:List Tr.C) (cl:Tr.C) (pv fv mv:Value) (d:Nat):Prop:=∀(l:List Tr.S) (g:Co.G) (cv nv vv:Value) (w:World) (a:Value) (n:Nat),Tr.S.deep.deeps l<=d->Tr.zV l=true->GS B0 gb cs cl pv fv mv g cv nv vv w->B0<=w.heap.size->(Co.Bd n g/\n+Co.wSs l<=900000)->SlS (hide (upL 0 (owl gb cv nv vv)) w) a l->
    Calls prog 56 #[.pointer (some ⟨gb,0,none⟩),a] w (GQ B0 gb cs cl pv fv mv (Co.gB cs cl.fields g l) cv nv vv w)
def SC (B0 gb:Nat) (cs:List Tr.C) (cl:Tr.C) (pv fv mv:Value) (d:Nat):Prop:=∀(s:Tr.S) (g:Co.G) (cv nv vv:Value) (w:World) (x y z:Value) (n:Nat),s.deep<=d->Tr.zI s=true->BdS s->GS B0 gb cs cl pv fv mv g cv nv vv w->B0<=w.heap.size->(Co.Bd n g/\n+Co.wS s<=900000)->SlE (hide (upL 0 (owl gb cv nv vv)) w) x s.exprs->SlS (hide (upL 0 (owl gb cv nv vv)) w) y s.body->SlS (hide (upL 0 (owl gb cv nv vv)) w) z s.els->
    Calls prog 90 #[.pointer (some ⟨gb,0,none⟩),stmtV s x y z] w (GQ B0 gb cs cl pv fv mv (Co.gS cs cl.fields g s) cv nv vv w)
section
variable {B0 gb:Nat} {cs:List Tr.C} {cl:Tr.C} {pv fv mv:Value} {g:Co.G} {cv nv vv:Value} {w W:World} {o0:List Nat} {bs:List Bk} {os:List (World->Prop)}
theorem Mg.sightS (h:Mg B0 gb cs cl pv fv mv w o0 g cv nv vv bs os W) (i:Nat) {a:Value} {l:List Tr.S} (hi:os[i]? =some (RS a l)):SlS (hide (upL 0 (owl gb cv nv vv)) W) a l:=
 SlS.inc (h.o i hi) (zEG (kL _) (fun _ hb=>kU.2 (.inl hb)))
theorem Mg.underS (h:Mg B0 gb cs cl pv fv mv w o0 g cv nv vv bs os W) (i:Nat) {p:Option Addr} {N c:Nat} {l:List Tr.S} (hi:os[i]? =some (RS (.slice p N c) l)) {j:Nat} {s:Tr.S} (hs:l[j]? =some s):
 ∃b oo px nx cx py ny cy pz nz cz,p=some ⟨b,oo,none⟩/\b<W.heap.size/\CellsS W b (oo+j*5) s (.slice px nx cx) (.slice py ny cy) (.slice pz nz cz)/\BdS s/\Hid (Mg B0 gb cs cl pv fv mv w o0 g cv nv vv bs (RE (.slice px nx cx) s.exprs::RS (.slice py ny cy) s.body::RS (.slice pz nz cz) s.els::os) W):=by
 obtain⟨b,oo,x,y,z,hp,hb,hc,hbd,h1,h2,h3⟩:=SlS.get (h.o i hi) hs;obtain⟨px,cx,rfl,_⟩:=h1.form;obtain⟨py,cy,rfl,_⟩:=h2.form;obtain⟨pz,cz,rfl,_⟩:=h3.form;rw [zAW] at hb;exact⟨b,oo,_,_,_,_,_,_,_,_,_,hp,hb,⟨(zQ hc.1).2,(zQ hc.2.1).2,(zQ hc.2.2.1).2,(zQ hc.2.2.2.1).2,(zQ hc.2.2.2.2).2⟩,hbd,zh (((h.get rs_mn h3).get rs_mn h2).get re_mn h1)⟩
theorem Mg.adopt (h:Mg B0 gb cs cl pv fv mv w o0 g cv nv vv bs os W) {W':World} {B:Nat} {cs':Array Value} {t:TypeId} (hm:My W [(B,cs',t)] [] W') {r:World->Prop} (hr:Mn r) (hs:r (hide (upL W.heap.size [B]) W')):Mg B0 gb cs cl pv fv mv w o0 g cv nv vv ((B,cs',t)::bs) (r::os) W':=by
 have hb:=My.fin hm;have h1:=Mz.callB (nb:= [(B,cs',t)]) h (Gr.below hb (owl gb cv nv vv)) (fun b hb'=>⟨kP (h.ol b hb').1 hb.size,(h.ol b hb').2⟩) (h.pk hb.size (fun b hlt _=>hb.block b hlt) h.q) h.pk (fun x hx=>by
  rw [kT.1 hx];have h2:=hm.lt 0 rfl;exact⟨hm.b 0 rfl,h2.1,fun h3=>by have:=(h.ol B h3).1;omega⟩) (by simp)
 refine Mz.get h1 hr (hr _ _ (zEV (fun q _ hq=>?_)) hs);rcases hq with hq|hq
 ·omega
 ·rcases kU.1 hq with hq|hq
  ·exact .inl (h.ol q hq).1
  ·rw [List.map_append] at hq;rcases kU.1 hq with hq|hq
   ·exact .inr hq
   ·exact .inl (h.lts hq).2.1
theorem GS.takeV (h:GS B0 gb cs cl pv fv mv g cv nv vv W) {p:Option Addr} {m c k:Nat} (hvv:vv= .slice p m c) (hk:k<=g.vars.length):
 GS B0 gb cs cl pv fv mv { g with vars:=g.vars.take k } cv nv (.slice p k c) (W.setCell ⟨gb,7,none⟩ (.slice p k c))/\Gr W (owl gb cv nv vv) (W.setCell ⟨gb,7,none⟩ (.slice p k c)) (owl gb cv nv (.slice p k c)):=by
 have how:(Value.slice p k c).ownBlock=vv.ownBlock:=by
  rw [hvv];rcases p with _|⟨b,o,sp⟩<;>rfl
 have hol:owl gb cv nv (.slice p k c)=owl gb cv nv vv:=by unfold owl ownL;rw [how]
 rw [hol];have hg:=zW W gb 7 (.slice p k c);obtain⟨⟨d1,d2,d3⟩,d4,d5⟩:=zB3.1 h.nd;have ho:∀q,q≠gb->q<W.heap.size->(W.setCell ⟨gb,7,none⟩ (.slice p k c)).heap[q]? =W.heap[q]?:=fun q hq hlt=>hg.block q hlt (ne_sm hq)
 have hkk:(g.vars.take k).length=k:=by rw [List.length_take];omega
 refine⟨⟨?_,?_,?_,?_,by rw [hol];exact h.nd,h.ge,h.ns,fun x hx=>h.vs x (List.mem_of_mem_take hx),h.pc.inc ?_,h.fc.inc ?_⟩,Gr.by hg (zZ.2 (.inl rfl))⟩
 ·exact Pw.heap_set (j:=7) _ h.blk
 ·exact zAP h.code (fun q hq=>ho q (fun e=>d1 (e▸hq)) (zAE h.code hq).2)
 ·exact zAP h.names (fun q hq=>ho q (fun e=>d2 (e▸hq)) (zAE h.names hq).2)
 ·have h1:=zAP h.vars (fun q hq=>ho q (fun e=>d3 (e▸hq)) (zAE h.vars hq).2);rw [hkk];refine⟨by rw [flatV_len zBF 2 zAS,hkk],?_⟩;rcases h1.2 with ⟨e,e2⟩|⟨b,cap,cur,e,hb,hblk,hn,hmx,hcs,ht⟩
  ·rw [hvv] at e;injection e with e3 e4 e5
   have hz:k=0:=by
    omega
   subst hz e3 e5;exact .inl ⟨rfl,rfl⟩
  ·rw [hvv] at e;injection e with e3 e4 e5
   subst e3 e5;refine .inr ⟨b,c,cur,rfl,hb,hblk,by omega,hmx,hcs,?_⟩;have h2:flatV zBF (g.vars.take k)=(flatV zBF g.vars).take (k*2):=by
    have h3:flatV zBF g.vars=flatV zBF (g.vars.take k)++flatV zBF (g.vars.drop k):=by rw [<-flatV_append,List.take_append_drop]
    rw [h3,List.take_left' (by rw [flatV_len zBF 2 zAS,hkk])]
   show _=flatV zBF (g.vars.take k)
   rw [h2,<-ht,List.take_take]
   congr 1
   omega
 ·exact zCF hg.size (fun b hb h0=>ho b (by have:=h.ge;omega) hb)
 ·exact zCF hg.size (fun b hb h0=>ho b (by have:=h.ge;omega) hb)
end
theorem gEs_vars (cs:List Tr.C) (fs:List BA):∀(l:List Tr.E) (g:Co.G),(Co.gEs cs fs g l).vars=g.vars
 | [],g=>by rw [Co.gEs]
 |e::r,g=>by rw [Co.gEs,gEs_vars cs fs r,Co.zM9]
theorem zM7 (cs:List Tr.C) (fs:List BA):∀(l:List Tr.S) (g:Co.G) (x:Tr.S),Co.gSs cs fs g (l++ [x])=Co.gS cs fs (Co.gSs cs fs g l) x
 | [],g,x=>by rw [List.nil_append,Co.gSs,Co.gSs,Co.gSs]
 |y::r,g,x=>by rw [List.cons_append,Co.gSs,Co.gSs,zM7 cs fs r]
theorem zHU (g:Co.G) (s:BA):(Co.name g s).1.vars=g.vars:=by
 unfold Co.name
 split<;>rfl
theorem zVC (cs:List Tr.C) (fs:List BA) (g:Co.G) (s:Tr.S):∃t,(Co.gS cs fs g s).vars=g.vars++t:=by
 obtain⟨k,nm,x,b,l⟩:=s;rw [Co.gS];dsimp only;have hz:∀g':Co.G,g'.vars=g.vars->∃t,g'.vars=g.vars++t:=fun g' e=>⟨[],by rw [e,List.append_nil]⟩
 have hem:∀(g':Co.G) (o a b p q:Int),(Co.emit g' o a b p q).vars=g'.vars:=fun _ _ _ _ _ _=>rfl
 have hpa:∀(g':Co.G) (i:Nat),(Co.patch g' i).vars=g'.vars:=fun _ _=>rfl
 have hsh:∀(g0 g':Co.G),(Co.shut g0 g').vars=g0.vars:=fun _ _=>rfl
 split
 ·exact⟨[(nm,_)],by show(Co.gEs cs fs g ((Co.zG x).take 1)).vars++_=_;rw [gEs_vars]⟩
 ·split
  ·exact hz _ (by rw [hem,gEs_vars])
  ·split
   ·split
    ·exact hz _ (by rw [hem,gEs_vars])
    ·exact hz _ (by rw [hem,zHU,gEs_vars])
   ·split
    ·split
     ·exact hz _ (by rw [hpa,hsh,hem,gEs_vars])
     ·exact hz _ (by rw [hpa,hsh,hsh,hem,gEs_vars])
    ·split
     ·exact hz _ (by rw [hpa,hem,hsh,hem,gEs_vars])
     ·split
      ·exact hz _ (by rw [hem];show(Co.name (Co.gEs cs fs g (Co.zG x)) nm).1.vars=_;rw [zHU,gEs_vars])
      ·split
       ·exact hz _ (by rw [hem,gEs_vars])
       ·split
        ·exact hz _ (by rw [hem,gEs_vars])
        ·split
         ·exact hz _ (by rw [hem,zHU,gEs_vars])
         ·exact hz _ (by rw [hem])
theorem zKE (cs:List Tr.C) (fs:List BA):∀(l:List Tr.S) (g:Co.G),∃t,(Co.gSs cs fs g l).vars=g.vars++t
 | [],g=>⟨[],by rw [Co.gSs,List.append_nil]⟩
 |s::r,g=>by
  rw [Co.gSs];obtain⟨t1,h1⟩:=zVC cs fs g s;obtain⟨t2,h2⟩:=zKE cs fs r (Co.gS cs fs g s);exact⟨t1++t2,by rw [h2,h1,List.append_assoc]⟩
theorem zVD (cs:List Tr.C) (fs:List BA) (g:Co.G) (l:List Tr.S):Co.gB cs fs g l= { Co.gSs cs fs g l with vars:=(Co.gSs cs fs g l).vars.take g.vars.length }:=by
 obtain⟨t,h⟩:=zKE cs fs l g;unfold Co.gB Co.shut;rw [h,List.take_left' rfl]
theorem zJW:∀ {l:List Tr.S} {j:Nat} {x:Tr.S},l[j]? =some x->Co.wSs (l.take j)+Co.wS x<=Co.wSs l
 | [],j,x,h=>by simp at h
 |y::r,0,x,h=>by cases h;rw [List.take_zero,Co.wSs,Co.wSs];omega
 |y::r,j+1,x,h=>by
  rw [List.take_succ_cons,Co.wSs,Co.wSs];have:=zJW (l:=r) (j:=j) (x:=x) (by simpa using h);omega
theorem wS_pos (s:Tr.S):32<=Co.wS s:=by cases s;rw [Co.wS];omega
theorem zMI:∀l:List Tr.S,l.length<=Co.wSs l
 | []=>kO _
 |e::r=>by rw [Co.wSs,kI];have:=zMI r;have:=wS_pos e;omega
theorem zET:∀ {l:List Tr.S} {j:Nat} {e:Tr.S},Tr.zV l=true->l[j]? =some e->Tr.zI e=true
 | [],j,e,_,h=>by simp at h
 |x::r,0,e,hv,h=>by cases h;rw [Tr.zV,kW] at hv;exact hv.1
 |x::r,j+1,e,hv,h=>by rw [Tr.zV,kW] at hv;exact zET (l:=r) (j:=j) hv.2 (by simpa using h)
theorem zOF {B0 gb:Nat} {cs:List Tr.C} {cl:Tr.C} {pv fv mv:Value} {d:Nat} (hE:SC B0 gb cs cl pv fv mv d):BC B0 gb cs cl pv fv mv d:=by
 intro l g cv nv vv w a n hd hv h hB hbd hS;obtain⟨p,c,rfl,_⟩:=hS.form;obtain⟨N,hN⟩:∃q,l.length=q:=⟨_,rfl⟩;have hll:=zMI l;rw [hN] at hS hll |-;obtain⟨X,hX⟩:∃q,Co.gB cs cl.fields g l=q:=⟨_,rfl⟩;rw [hX];rw [zVD] at hX;have HX:=zh hX;have HN:=zh hN;have HBD:=zh hbd;have HEC:=zh hE;have HD:Hid (∀(j:Nat) (x:Tr.S),l[j]? =some x->x.deep<=d):=zh (fun j x hx=>kG (Tr.S.deeps_get l j x hx) hd);have HV:=zh hv;obtain⟨pq,cq,hvv⟩:=own_form h.vars;have HVV:=zh hvv;obtain⟨VN,hVN⟩:∃q,g.vars.length=q:=⟨_,rfl⟩;have HVN:=zh hVN;rw [hVN] at HVV;have C0:=zh (Mg.start (os:= [RS (.slice p N c) l]) h hB (fun r hr=>by rw [kT.1 hr];exact⟨rs_mn,hS⟩));have gl:=lt_of_block C0.q.blk;have g7:=zA0 C0.q (j:=7) (u:=vv) rfl;rw [HVV.out] at g7;have hnb:=HBD.2;clear hX hN h hB hbd hE hd hv hS hvv hVN;go_in;go_wp2_with fail;clear g7 gl
 go_loopg [14] N (fun gg s14 wr=>∃j:Nat,s14= .int .i64 j/\j<=N/\gg=N -j/\∃cv' nv' vv',Hid (Mg B0 gb cs cl pv fv mv w (owl gb cv nv vv) (Co.gSs cs cl.fields g (l.take j)) cv' nv' vv' [] [RS (.slice p N c) l] wr))
 case atStart=>exact ⟨0,rfl,kO _,rfl,cv,nv,vv,zh (by rw [List.take_zero,Co.gSs];exact C0)⟩
 case round=>
  clear C0;obtain⟨j,rfl,hj,rfl,cv',nv',vv',CR⟩:=hrel;by_cases hlt:j<N
  ·obtain⟨x,hx⟩:∃x,l[j]? =some x:=⟨_,kB (by rw [HN.out];exact hlt)⟩;obtain⟨b,oo,px,nx,cx,py,ny,cy,pz,nz,cz,rfl,hblt,⟨x0,x1,x2,x3,x4⟩,hbx,CU⟩:=Mg.underS CR 0 rfl hx;have HTK:Hid (Co.gSs cs cl.fields g (l.take (j+1))=Co.gS cs cl.fields (Co.gSs cs cl.fields g (l.take j)) x):=zh (by rw [zE8 hx,zM7]);have HW9:=zh (zJW hx);have HBX:=zh hbx;have HDX:=zh (HD j x hx);have HVX:=zh (zET HV hx);have b3j:(j:Int)<(N:Int):=(by omega);have b0j:(0:Int)<=(j:Int):=(by omega);obtain⟨w4,HW4⟩:∃q,Hid (q=wr.alloc (.cells #[.int .i64 x.kind,.string x.name,.slice px nx cx,.slice py ny cy,.slice pz nz cz] 71)):=⟨_,zh rfl⟩;have hb4:Below wr.heap.size wr w4:=by rw [HW4.out];exact zD _ _
   have C4:=zh (CU.below hb4);clear hx hbx CU CR hb4;go_wp2_with fail;rw [<-HW4.out];clear HW4 x0 x1 x2 x3 x4 hblt;have hk9:=HEC x _ _ _ _ w4 (.slice px nx cx) (.slice py ny cy) (.slice pz nz cz) (n+Co.wSs (l.take j)) HDX HVX HBX C4.q (kG C4.hB C4.le) ⟨Co.zDD cs cl.fields n g (l.take j) HBD.1,by have h8:=HW9.out;have h7:=HBD.2;omega⟩ (Mg.sight C4 0 rfl) (Mg.sightS C4 1 rfl) (Mg.sightS C4 2 rfl);unfold stmtV at hk9;refine hk9.mono ?_;clear hk9;rintro e w5 hp5;obtain⟨rfl,cv5,nv5,vv5,C5⟩:=Mg.done C4 hp5;have C6:=zh (C5.few (os':= [RS (.slice (some ⟨b,oo,none⟩) N c) l]) (fun r hr=>by rw [kT.1 hr];simp));rw [<-HTK.out] at C6;clear hp5 C4 C5;go_wp2;go_roundg (N -(j+1))
   case measure=>omega
   case rel=>exact ⟨j+1,by go_num,by omega,rfl,cv5,nv5,vv5,C6⟩
  ·obtain rfl:j=N:=by omega
   rw [kR (by rw [HN.out];exact kL _)] at CR;obtain⟨pe,ce,hve⟩:=own_form CR.q.vars;have hvl:VN<=(Co.gSs cs cl.fields g l).vars.length:=by
    obtain⟨t,ht⟩:=zKE cs cl.fields l g;rw [ht,kN,HVN.out];omega
   obtain⟨h1,h2⟩:=GS.takeV CR.q hve hvl;have C7:=zh (Mg.move CR h1 h2);have hcap:VN<=ce:=by
    rcases CR.q.vars.2 with ⟨e,e2⟩|⟨b,cap,cur,e,hb,hblk,hn,hmx,hcs,ht⟩
    ·rw [hve] at e;injection e with e1 e2 e3
     omega
    ·rw [hve] at e;injection e with e1 e2 e3
     omega
   have gl:=lt_of_block CR.q.blk;have g7:=zA0 CR.q (j:=7) (u:=vv') rfl;have gf7:=gfree CR.q 7;obtain⟨VE,hVE⟩:∃q,(Co.gSs cs cl.fields g l).vars.length=q:=⟨_,rfl⟩;rw [hve,hVE] at g7;rw [hVE] at hvl;have bv0:(0:Int)<=(VN:Int):=(by omega);have bv1:(VN:Int)<=(ce:Int):=(by omega);clear h1 h2 hve hVE;rw [HVN.out] at HX;go_wp2_with fail;go_end0;have h9:=Mg.fin C7.out;rw [HX.out] at h9;exact h9
end Cw
end
end Go.Proofs.YtcnmfcgmnkncaaaGreatDoor
