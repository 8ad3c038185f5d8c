/-
  CgExpr, CgBlock.
-/
import Derived.Test.YtcnmfcgmnkncaaaGreatDoorX32
set_option maxRecDepth 100000
set_option maxHeartbeats 40000000
open Go.Proofs.Tryz
namespace Go.Proofs.YtcnmfcgmnkncaaaGreatDoor
namespace Cw
open Go.RowKit Go.Maps Pw
theorem zTX {a b c:Value} {cs:List Tr.C} {cl:Tr.C} (hF:a.oneCell'=true/\b.oneCell'=true/\c.oneCell'=true) {d:Nat} (hX:XC a b c cs cl d):XC a b c cs cl (d+1):=by
 intro e v x y z g w l m hd hv hbe hl hr hf he hbd;obtain⟨k,o,i,nm,at_,es⟩:=e;have hW:m+16+es.length+Co.wEs es<=900000:=by have h9:=hbd.2;rw [Co.wE] at h9;omega
 have hok:=(Co.zN hv).2;have hvs:=(Co.zN hv).1;have HDS:Hid (∀(j:Nat) (x:Tr.E),es[j]? =some x->x.deep<=d):=zh (fun j x hj=>Tr.E.deep_args hd hj);have hlen:=Co.zU6 hok;have HLE:=zh hlen;have HVS:=zh hvs;have HT:=zh hW;have HX:=zh hX;have HF:=zh hF;have HB0:=zh hbd.1;have HBE:=zh hbe;obtain⟨pe,ce,rfl,_⟩:=SlE.form he;obtain⟨px,cx,hx9,_⟩:=hr.code.form;subst hx9;have HNM:Hid (nm.size<=maxLen):=zh hbe.name;obtain⟨EN,hEN⟩:∃q,es.length=q:=⟨_,rfl⟩;have he:RE (.slice pe es.length ce) es (hide (upL 0 l) w):=he;rw [hEN] at he;have HEN:=zh hEN;unfold zK;simp only [Tr.E.kind,Tr.E.op,Tr.E.int,Tr.E.name,Tr.E.at_,Tr.E.args];rw [hEN];have C0:=zh (Mh.start (os:= [RG (.slice px g.code.length cx) y z g,RF a b cs cl,RE (.slice pe EN ce) es]) hl (fun r h=>by
  simp only [kV,List.not_mem_nil,or_false] at h;rcases h with rfl|rfl|rfl
  ·exact⟨rg_mn,hr⟩
  ·exact⟨rf_mn,hf⟩
  ·exact⟨re_mn,he⟩))
 have HD9:=zh hd;have HV9:=zh hv;clear hX hd hv hbd hl hr hf he hbe hok hvs hlen hW hEN;obtain⟨G,w1,HX1,HW1,hx1,C1⟩:=C0.boxE (gC a cl b c (.slice px g.code.length cx) y z g) 116;obtain⟨E,w2,HX2,HW2,hx2,C2⟩:=C1.boxE (#[.int .i64 k,.int .i64 o,.int .i64 i,.string nm,.bool at_,.slice pe EN ce]) 37;have HY2:Hid (E=G+1):=zh (by rw [HX2.out,HW1.out,HX1.out];simp);obtain⟨R,w3,HX3,HW3,hx3,C3⟩:=C2.boxE zro 116;have HY3:Hid (R=E+1):=zh (by rw [HX3.out,HW2.out,HX2.out];simp);go_in;go_upto_region 1 with fail;rw [<-HX1.out,<-HW1.out,<-HY2.out,<-HW2.out,<-HY3.out,<-HW3.out];clear HX1 HW1 C0 HY2 HX2 HW2 C1 HY3 HX3 HW3 C2;go_wp2_with (refine wpList_load_row rfl _ _ rfl E rfl _ _ _ _ (C3.b 1 rfl) underlying37 rfl (by kernel_rfl) ?_);have hk:=zDH (.mk k o i nm at_ es) (.slice pe EN ce) w3 HBE (C3.rd 2 rfl) (fun h=>by show es.length=1;exact HLE.1 (.inr (.inr (.inr (.inl h)))));unfold zK at hk;cases hc:Co.const (.mk k o i nm at_ es) with
 |some n=>
  rw [hc] at hk;refine hk.mono ?_;clear hk;rintro e_ w4 ⟨rfl,hb9⟩;have C4:=zh (C3.below hb9);clear hb9 C3;have HC:=zh hc;clear hc;go_upto_region 3 with fail;go_wp2_with (refine gl (C4.b 2 rfl) ?_);refine C4.em HF 0 rfl HB0 (by have h9:=HT.out;omega) 0 n 0 0 1 (m:=1) (by omega) ?_;rintro g5 y5 z5 px5 cx5 w5 HG5 HB5 C5;clear C4;go_wp2_with (refine C5.gs0 HF 0 rfl ?_;intro w6 C6);clear C5;have HFIN:Hid (Co.gE cs cl.fields g (.mk k o i nm at_ es)=g5):=zh (by rw [Co.gE,HC.out];exact HG5);exact C6.ge 0 rfl 0 rfl results141 HFIN
 |none=>
  rw [hc] at hk;refine hk.mono ?_;clear hk;rintro e_ w4 ⟨rfl,hb9⟩;have C4:=zh (C3.below hb9);clear hb9 C3;have HC:=zh hc;clear hc;by_cases hk:k=1
  ·subst hk;have qe:=zF (C4.b 1 rfl);go_upto_region 6 with fail;clear qe;go_wp2_with (refine gl (C4.b 2 rfl) ?_);refine C4.em HF 0 rfl HB0 (by have h9:=HT.out;omega) 1 0 0 0 1 (m:=1) (by omega) ?_;rintro g7 y7 z7 px7 cx7 w7 HG7 HB7 C7;clear C4;go_wp2_with (refine C7.gs0 HF 0 rfl ?_;intro w8 C8);clear C7;exact C8.ge 0 rfl 0 rfl results141 (by rw [Co.gE,HC.out];rw [kD rfl];exact HG7)
  have hb1:(k == 1)=false:=kA.2 hk;have hk1:=zh hk;clear hk;by_cases hk:k=2
  ·subst hk;have qe:=zF (C4.b 1 rfl);go_upto_region 8 with fail;clear qe;go_wp2_with (refine gl (C4.b 2 rfl) ?_);refine C4.em HF 0 rfl HB0 (by have h9:=HT.out;omega) 2 0 0 0 1 (m:=1) (by omega) ?_;rintro g9 y9 z9 px9 cx9 w9 HG9 HB9 C9;clear C4;go_wp2_with (refine C9.gs0 HF 0 rfl ?_;intro w10 C10);clear C9;exact C10.ge 0 rfl 0 rfl results141 (by rw [Co.gE,HC.out];rw [kC (by decide)];rw [kD rfl];exact HG9)
  have hb2:(k == 2)=false:=kA.2 hk;have hk2:=zh hk;clear hk;by_cases hk:k=3
  ·subst hk;have qe:=zF (C4.b 1 rfl);go_upto_region 10 with fail;clear qe;obtain⟨w11,HW,C11⟩:=C4.drewE;refine wp_region_held_drew (S:=fun W=>(G12 G a cl b c (.slice px g.code.length cx) y z g W)/\W.cell? ⟨E,3,none⟩=some (.string nm)) (by kernel_rfl) (by rw [<-HW.out];exact⟨cs12 (C11.b 2 rfl),zB (C11.b 1 rfl) (j:=3) rfl⟩) (fun hH=>?_);rw [<-HW.out] at hH |-;clear HW C4;refine rU 0 (some 33) ?_;refine rU 1 (some 34) ?_;refine rU 2 (some 35) ?_;refine rU 3 (some 36) ?_;clear hH;refine rR1 4 (some 37) (fun K hK=>?_);go_simp;have hk:=zH8 (a:=a) (b:=b) (c:=c) (cl:=cl) HF C11.all (C11.o 0 rfl) ⟨HB0,by have h9:=HT.out;omega⟩ nm;unfold gC at hk;refine hk.mono ?_;clear hk;rintro e_ w12 ⟨rfl,hb9⟩;have C12:=zh (C11.below hb9);clear hb9 C11;go_wp2;refine hK _ _ (⟨cs12 (C12.b 2 rfl),zB (C12.b 1 rfl) (j:=3) rfl⟩) (fun hH=>?_);clear hK K hH
   try simp only [Act.put]
   refine rR1 5 (some 38) (fun K hK=>?_);go_simp;refine C12.em HF 0 rfl HB0 (by have h9:=HT.out;omega) 3 (Co.zBG g nm) 0 0 1 (m:=1) (by omega) ?_;rintro g13 y13 z13 px13 cx13 w13 HG13 HB13 C13;clear C12;go_wp2;refine hK _ _ (⟨cs12 (C13.b 2 rfl),zB (C13.b 1 rfl) (j:=3) rfl⟩) (fun hH=>?_);clear hK K hH
   try simp only [Act.put]
   refine rR1 6 none (fun K hK=>?_);rw [kD (by rfl)];refine C13.gw0 HF 0 rfl (fun w14 C14=>?_);clear C13;refine hK _ _ (⟨cs12 (C14.b 2 rfl),zB (C14.b 1 rfl) (j:=3) rfl⟩) (fun hH=>?_);clear hK K hH
   try simp only [Act.put]
   refine wpAnyH_done (by kernel_rfl) ?_ _;go_wp2;exact C14.ge 0 rfl 0 rfl results141 (by rw [Co.gE,HC.out];rw [kC (by decide)];rw [kC (by decide)];rw [kD rfl];exact HG13)
  have hb3:(k == 3)=false:=kA.2 hk;have hk3:=zh hk;clear hk;by_cases hk:k=4
  ·subst hk;obtain⟨x1,rfl⟩:∃x,es= [x]:=by
    have h9:=HLE.1 (by omega)
    match es,h9 with
    | [x],_=>exact ⟨x,rfl⟩
   obtain rfl:EN=1:=HEN.symm;have HV1:=zh (zH HVS (j:=0) (e:=x1) rfl);have HD1:=zh (HDS 0 x1 rfl);obtain⟨b_,oo,rfl⟩:∃b oo,pe=some ⟨b,oo,none⟩:=by
    obtain⟨b,oo,_,e,_⟩:=SlE.get (C4.rd 2 rfl) (j:=0) (e:=x1) rfl;exact⟨b,oo,e⟩
   have HT1:Hid (m+17+Co.wE x1<=900000):=zh (by have h9:=HT.out;rw [Co.wEs,Co.wEs] at h9;simp only [kI,kQ] at h9;omega);obtain⟨eb9,eo9,pa15,ca15,hp9,hbe15,C15⟩:=C4.elem 2 rfl (j:=0) (x:=x1) rfl;injection hp9 with e7
   injection e7 with e7 e8
   subst e7 e8;have HBE15:=zh hbe15;clear C4 hbe15;have qx:E6 b_ (oo) x1 (.slice pa15 x1.args.length ca15) w4:=(C15.rd 0 rfl);by_cases hx:x1.kind=2
   ·have hxb:(x1.kind == 2)=true:=by rw [hx];rfl
    have qe:=zF (C15.b 1 rfl);go_upto_region 13 with fail;clear qe;clear qx hxb;have HX1:=zh hx;clear hx;obtain⟨w16,HW,C16⟩:=C15.drewE;refine wp_region_held_drew (S:=fun W=>(G12 G a cl b c (.slice px g.code.length cx) y z g W)/\W.cell? ⟨E,3,none⟩=some (.string nm)) (by kernel_rfl) (by rw [<-HW.out];exact⟨cs12 (C16.b 2 rfl),zB (C16.b 1 rfl) (j:=3) rfl⟩) (fun hH=>?_);rw [<-HW.out] at hH |-;clear HW C15;refine rU 0 (some 47) ?_;refine rU 1 (some 48) ?_;refine rU 2 (some 49) ?_;refine rU 3 (some 50) ?_;refine rU 4 (some 51) ?_;refine rU 5 (some 52) ?_;clear hH;refine rR1 6 (some 53) (fun K hK=>?_);go_simp;refine(zJG nm b cl.fields w16 (C16.rd 3 rfl).2).mono ?_;rintro e_ w9_ ⟨rfl,hww⟩;rw [hww];clear hww w9_;go_wp2;refine hK _ _ (⟨cs12 (C16.b 2 rfl),zB (C16.b 1 rfl) (j:=3) rfl⟩) (fun hH=>?_);clear hK K hH
    try simp only [Act.put]
    refine rR1 7 (some 54) (fun K hK=>?_);go_simp;refine C16.em HF 2 rfl HB0 (by have h9:=HT1.out;omega) 7 (Co.idx cl.fields nm) 0 0 1 (m:=1) (by omega) ?_;rintro g17 y17 z17 px17 cx17 w17 HG17 HB17 C17;clear C16;go_wp2;refine hK _ _ (⟨cs12 (C17.b 2 rfl),zB (C17.b 1 rfl) (j:=3) rfl⟩) (fun hH=>?_);clear hK K hH
    try simp only [Act.put]
    refine rR1 8 none (fun K hK=>?_);rw [kD (by rfl)];refine C17.gw0 HF 0 rfl (fun w18 C18=>?_);clear C17;refine hK _ _ (⟨cs12 (C18.b 2 rfl),zB (C18.b 1 rfl) (j:=3) rfl⟩) (fun hH=>?_);clear hK K hH
    try simp only [Act.put]
    refine wpAnyH_done (by kernel_rfl) ?_ _;go_wp2;exact C18.ge 0 rfl 0 rfl results141 (by rw [Co.gE,HC.out];rw [kC (by decide)];rw [kC (by decide)];rw [kC (by decide)];rw [kD rfl];rw [kD (show Ck.zA9 [x1]=2 from HX1)];exact HG17)
   ·have hxb:(x1.kind == 2)=false:=kA.2 hx;have qe:=zF (C15.b 1 rfl);go_upto_region 14 with fail;clear qe;clear qx hxb;have HX1:=zh hx;clear hx;obtain⟨eb9,eo9,pa19,ca19,hp9,hbe19,C19⟩:=C15.elem 4 rfl (j:=0) (x:=x1) rfl;injection hp9 with e7
    injection e7 with e7 e8
    subst e7 e8;have HBE19:=zh hbe19;clear C15 hbe19;obtain⟨w20,HW,C20⟩:=C19.drewE;refine wp_region_held_drew (S:=fun W=>W.cell? ⟨E,5,none⟩=some (.slice (some ⟨b_,oo,none⟩) 1 ce)/\E6 b_ (oo) x1 (.slice pa19 x1.args.length ca19) W) (by kernel_rfl) (by rw [<-HW.out];exact⟨zB (C20.b 1 rfl) (j:=5) rfl,(C20.rd 0 rfl)⟩) (fun hH=>?_);rw [<-HW.out] at hH |-;clear HW C19;refine rU 1 (some 56) ?_;refine rU 2 (some 57) ?_;refine rU 3 (some 58) ?_;refine rU 4 (some 59) ?_;clear hH;refine rR1 0 (some 55) (fun K hK=>?_);rw [kD (by rfl)];refine glw (C20.b 2 rfl) ?_;refine hK _ _ (⟨zB (C20.b 1 rfl) (j:=5) rfl,(C20.rd 0 rfl)⟩) (fun hH=>?_);clear hK K hH
    try simp only [Act.put]
    refine rR1 5 (some 60) (fun K hK=>?_);go_simp;have hk:=HX x1 (.slice pa19 x1.args.length ca19) (.slice px g.code.length cx) y z g w20 _ _ HD1 HV1 HBE19 C20.all (C20.o 4 rfl) (C20.o 5 rfl) (C20.o 1 rfl) ⟨HB0,by have h9:=HT1.out;omega⟩;unfold zK at hk;refine C20.gc hk (Co.gE_bd cs cl.fields _ _ x1 HB0) ?_;rintro g21 y21 z21 px21 cx21 w21 HG21 HB21 C21;clear hk C20;go_wp2;refine hK _ _ (⟨zB (C21.b 1 rfl) (j:=5) rfl,(C21.rd 1 rfl)⟩) (fun hH=>?_);clear hK K hH
    try simp only [Act.put]
    refine rR1 6 none (fun K hK=>?_);rw [kD (by rfl)];refine C21.gw2 HF 0 rfl (fun w22 C22=>?_);clear C21;refine hK _ _ (⟨zB (C22.b 1 rfl) (j:=5) rfl,(C22.rd 1 rfl)⟩) (fun hH=>?_);clear hK K hH
    try simp only [Act.put]
    refine wpAnyH_done (by kernel_rfl) ?_ _;have qe:=zF (C22.b 1 rfl);go_wp2_with (refine gl (C22.b 2 rfl) ?_);clear qe;refine C22.nm HF 0 rfl HB21 (by have h9:=HT1.out;omega) nm HNM ?_;rintro g23 y23 z23 px23 cx23 w23 HG23 HB23 C23;clear C22;obtain⟨T,w24,HX_,HW_,hx_,C24⟩:=C23.boxE zro 116;go_upto_region 16 with (rw [<-HX_.out,<-HW_.out];refine C24.gs0 HF 0 rfl ?_;intro w25 C25);clear C24;clear HX_ HW_ C23;go_wp2_with (refine gl (C25.b 0 rfl) ?_);refine C25.em HF 0 rfl HB23 (by have h9:=HT1.out;omega) 6 (Co.name g21 nm).2 0 1 1 (m:=1) (by omega) ?_;rintro g26 y26 z26 px26 cx26 w26 HG26 HB26 C26;clear C25;have h1:=zFV (a:=a) (b:=b) (c:=c) (cl:=cl) HF (C26.rd 0 rfl);obtain⟨w27,HW,C27⟩:=C26.setRowE 1 rfl (gC a cl b c (.slice px26 g26.code.length cx26) y26 z26 g26);dsimp only [List.set] at C27;go_wp2_with (refine wpList_store_row rfl _ _ _ rfl R (gC a cl b c (.slice px26 g26.code.length cx26) y26 z26 g26) rfl rfl _ _ (C26.b 1 rfl) (by kernel_rfl) rfl h1 ?_);rw [<-HW.out];clear HW C26 h1;exact C27.ge 1 rfl 0 rfl results141 (by rw [Co.gE,HC.out];rw [kC (by decide)];rw [kC (by decide)];rw [kC (by decide)];rw [kD rfl];rw [kC (show ¬Ck.zA9 [x1]=2 from HX1),Co.gEs,Co.gEs,HG21.out,HG23.out];exact HG26)
  have hb4:(k == 4)=false:=kA.2 hk;have hk4:=zh hk;clear hk;by_cases hk:k=5
  ·subst hk;have hcn:=((C4.rd 1 rfl).1).len;unfold maxLen at hcn;have qg:=zAC (C4.b 2 rfl);have qe:=zF (C4.b 1 rfl);go_wp2_with fail;clear qg qe;have hk:=zD2 nm cs a w4 (C4.rd 1 rfl).1;obtain⟨CI,hCI⟩:∃q,(Ck.zAB cs nm).getD 0=q:=⟨_,rfl⟩;have hCB:CI<=9223372036854775806:=by
    rw [<-hCI];cases hcl:Ck.zAB cs nm with
    |none=>show (0:Nat)<=_;omega
    |some q=>obtain ⟨c9,hc9⟩:=Co.zT4 hcl;have h9:=(kJ.1 hc9).1;show q<=_;omega
   rw [hCI] at hk;have HCI:=zh hCI;refine hk.mono ?_;clear hk hCI hcn;rintro e_ w28 ⟨rfl,hb9⟩;have C28:=zh (C4.below hb9);clear hb9 C4;have qe:=zF (C28.b 1 rfl);go_wp2_with (refine gl (C28.b 2 rfl) ?_);clear qe;refine C28.gc (zCR (a:=a) (b:=b) (c:=c) HX HF es (v:= .slice pe EN ce) (fun e9 he9=>by obtain⟨j9,hj9⟩:=List.mem_iff_getElem?.1 he9;exact HDS j9 e9 hj9) HVS C28.all (C28.o 0 rfl) (C28.o 1 rfl) (C28.o 2 rfl) ⟨HB0,by have h9:=HT.out;omega⟩) (Co.zBX cs cl.fields _ _ es HB0) ?_;rintro g29 y29 z29 px29 cx29 w29 HG29 HB29 C29;clear C28;go_upto_region 21 with (refine C29.gs2 HF 0 rfl ?_;intro w30 C30);clear C29;have hEB:EN<=900000:=by have h9:=HT.out;rw [HEN.out] at h9;omega
   have hw1:IntKind.i64.wrap ((CI:Int)+1)=(CI:Int)+1:=by rw [IntKind.wrap_i64];omega
   have hw2:IntKind.i64.wrap ((EN:Int) - 1)=(EN:Int) - 1:=by rw [IntKind.wrap_i64];omega
   have HEB:=zh hEB;clear hEB hCB;cases at_ with
   |true=>
    have qe:=zF (C30.b 1 rfl);go_wp2_with (refine gl (C30.b 2 rfl) ?_);clear qe hw1 hw2;refine C30.gc (zFT (a:=a) (b:=b) (c:=c) (cl:=cl) HF C30.all (C30.o 0 rfl) ⟨HB29,by have h9:=HT.out;omega⟩ 11 ((CI:Int)+1) ((EN:Int) - 1) EN 1 ⟨by omega,by have h9:=HEB.out;omega⟩ ⟨by omega,by omega⟩) (Co.Bd.em (m:=(EN+2)) HB29 ⟨by omega,by omega⟩ ⟨by omega,by omega⟩) ?_;rintro g31 y31 z31 px31 cx31 w31 HG31 HB31 C31;clear C30;go_wp2_with (refine C31.gs0 HF 0 rfl ?_;intro w32 C32);clear C31;have HFIN:Hid (Co.gE cs cl.fields g (.mk 5 o i nm true es)=g31):=zh (by rw [Co.gE,HC.out];rw [kC (by decide)];rw [kC (by decide)];rw [kC (by decide)];rw [kC (by decide)];rw [kD rfl];rw [kD rfl];rw [HG29.out,HCI.out,HEN.out];exact HG31);exact C32.ge 0 rfl 0 rfl results141 HFIN
   |false=>
    have qe:=zF (C30.b 1 rfl);go_wp2_with (refine gl (C30.b 2 rfl) ?_);clear qe hw1 hw2;refine C30.gc (zFT (a:=a) (b:=b) (c:=c) (cl:=cl) HF C30.all (C30.o 0 rfl) ⟨HB29,by have h9:=HT.out;omega⟩ 10 ((CI:Int)+1) EN EN 1 ⟨by omega,by have h9:=HEB.out;omega⟩ ⟨by omega,by omega⟩) (Co.Bd.em (m:=(EN+2)) HB29 ⟨by omega,by omega⟩ ⟨by omega,by omega⟩) ?_;rintro g33 y33 z33 px33 cx33 w33 HG33 HB33 C33;clear C30;go_wp2_with (refine C33.gs0 HF 0 rfl ?_;intro w34 C34);clear C33;have HFIN:Hid (Co.gE cs cl.fields g (.mk 5 o i nm false es)=g33):=zh (by rw [Co.gE,HC.out];rw [kC (by decide)];rw [kC (by decide)];rw [kC (by decide)];rw [kC (by decide)];rw [kD rfl];rw [kC (by decide)];rw [HG29.out,HCI.out,HEN.out];exact HG33);exact C34.ge 0 rfl 0 rfl results141 HFIN
  have hb5:(k == 5)=false:=kA.2 hk;have hk5:=zh hk;clear hk;by_cases hk:k=6
  ·subst hk;obtain⟨x1,rfl⟩:∃x,es= [x]:=by
    have h9:=HLE.1 (by omega)
    match es,h9 with
    | [x],_=>exact ⟨x,rfl⟩
   obtain rfl:EN=1:=HEN.symm;have HV1:=zh (zH HVS (j:=0) (e:=x1) rfl);have HD1:=zh (HDS 0 x1 rfl);obtain⟨b_,oo,rfl⟩:∃b oo,pe=some ⟨b,oo,none⟩:=by
    obtain⟨b,oo,_,e,_⟩:=SlE.get (C4.rd 2 rfl) (j:=0) (e:=x1) rfl;exact⟨b,oo,e⟩
   have HT1:Hid (m+17+Co.wE x1<=900000):=zh (by have h9:=HT.out;rw [Co.wEs,Co.wEs] at h9;simp only [kI,kQ] at h9;omega);have qe:=zF (C4.b 1 rfl);go_upto_region 25 with fail;clear qe;obtain⟨eb9,eo9,pa35,ca35,hp9,hbe35,C35⟩:=C4.elem 2 rfl (j:=0) (x:=x1) rfl;injection hp9 with e7
   injection e7 with e7 e8
   subst e7 e8;have HBE35:=zh hbe35;clear C4 hbe35;obtain⟨w36,HW,C36⟩:=C35.drewE;refine wp_region_held_drew (S:=fun W=>W.cell? ⟨E,5,none⟩=some (.slice (some ⟨b_,oo,none⟩) 1 ce)/\E6 b_ (oo) x1 (.slice pa35 x1.args.length ca35) W) (by kernel_rfl) (by rw [<-HW.out];exact⟨zB (C36.b 1 rfl) (j:=5) rfl,(C36.rd 0 rfl)⟩) (fun hH=>?_);rw [<-HW.out] at hH |-;clear HW C35;refine rU 1 (some 106) ?_;refine rU 2 (some 107) ?_;refine rU 3 (some 108) ?_;refine rU 4 (some 109) ?_;clear hH;refine rR1 0 (some 105) (fun K hK=>?_);rw [kD (by rfl)];refine glw (C36.b 2 rfl) ?_;refine hK _ _ (⟨zB (C36.b 1 rfl) (j:=5) rfl,(C36.rd 0 rfl)⟩) (fun hH=>?_);clear hK K hH
   try simp only [Act.put]
   refine rR1 5 (some 110) (fun K hK=>?_);go_simp;have hk:=HX x1 (.slice pa35 x1.args.length ca35) (.slice px g.code.length cx) y z g w36 _ _ HD1 HV1 HBE35 C36.all (C36.o 2 rfl) (C36.o 3 rfl) (C36.o 1 rfl) ⟨HB0,by have h9:=HT1.out;omega⟩;unfold zK at hk;refine C36.gc hk (Co.gE_bd cs cl.fields _ _ x1 HB0) ?_;rintro g37 y37 z37 px37 cx37 w37 HG37 HB37 C37;clear hk C36;go_wp2;refine hK _ _ (⟨zB (C37.b 1 rfl) (j:=5) rfl,(C37.rd 1 rfl)⟩) (fun hH=>?_);clear hK K hH
   try simp only [Act.put]
   refine rR1 6 (some 111) (fun K hK=>?_);go_simp;refine C37.em HF 0 rfl HB37 (by have h9:=HT1.out;omega) 12 0 0 1 1 (m:=1) (by omega) ?_;rintro g38 y38 z38 px38 cx38 w38 HG38 HB38 C38;clear C37;go_wp2;refine hK _ _ (⟨zB (C38.b 1 rfl) (j:=5) rfl,(C38.rd 2 rfl)⟩) (fun hH=>?_);clear hK K hH
   try simp only [Act.put]
   refine rR1 7 none (fun K hK=>?_);rw [kD (by rfl)];refine C38.gw0 HF 0 rfl (fun w39 C39=>?_);clear C38;refine hK _ _ (⟨zB (C39.b 1 rfl) (j:=5) rfl,(C39.rd 2 rfl)⟩) (fun hH=>?_);clear hK K hH
   try simp only [Act.put]
   refine wpAnyH_done (by kernel_rfl) ?_ _;go_wp2;exact C39.ge 0 rfl 0 rfl results141 (by rw [Co.gE,HC.out];rw [kC (by decide)];rw [kC (by decide)];rw [kC (by decide)];rw [kC (by decide)];rw [kC (by decide)];rw [kD rfl];rw [Co.gEs,Co.gEs,HG37.out];exact HG38)
  have hb6:(k == 6)=false:=kA.2 hk;have hk6:=zh hk;clear hk;by_cases hk:k=7
  ·subst hk;obtain⟨x1,rfl⟩:∃x,es= [x]:=by
    have h9:=HLE.1 (by omega)
    match es,h9 with
    | [x],_=>exact ⟨x,rfl⟩
   obtain rfl:EN=1:=HEN.symm;have HV1:=zh (zH HVS (j:=0) (e:=x1) rfl);have HD1:=zh (HDS 0 x1 rfl);obtain⟨b_,oo,rfl⟩:∃b oo,pe=some ⟨b,oo,none⟩:=by
    obtain⟨b,oo,_,e,_⟩:=SlE.get (C4.rd 2 rfl) (j:=0) (e:=x1) rfl;exact⟨b,oo,e⟩
   have HT1:Hid (m+17+Co.wE x1<=900000):=zh (by have h9:=HT.out;rw [Co.wEs,Co.wEs] at h9;simp only [kI,kQ] at h9;omega);have qe:=zF (C4.b 1 rfl);go_upto_region 27 with fail;clear qe;obtain⟨eb9,eo9,pa40,ca40,hp9,hbe40,C40⟩:=C4.elem 2 rfl (j:=0) (x:=x1) rfl;injection hp9 with e7
   injection e7 with e7 e8
   subst e7 e8;have HBE40:=zh hbe40;clear C4 hbe40;obtain⟨w41,HW,C41⟩:=C40.drewE;refine wp_region_held_drew (S:=fun W=>W.cell? ⟨E,5,none⟩=some (.slice (some ⟨b_,oo,none⟩) 1 ce)/\E6 b_ (oo) x1 (.slice pa40 x1.args.length ca40) W) (by kernel_rfl) (by rw [<-HW.out];exact⟨zB (C41.b 1 rfl) (j:=5) rfl,(C41.rd 0 rfl)⟩) (fun hH=>?_);rw [<-HW.out] at hH |-;clear HW C40;refine rU 1 (some 115) ?_;refine rU 2 (some 116) ?_;refine rU 3 (some 117) ?_;refine rU 4 (some 118) ?_;clear hH;refine rR1 0 (some 114) (fun K hK=>?_);rw [kD (by rfl)];refine glw (C41.b 2 rfl) ?_;refine hK _ _ (⟨zB (C41.b 1 rfl) (j:=5) rfl,(C41.rd 0 rfl)⟩) (fun hH=>?_);clear hK K hH
   try simp only [Act.put]
   refine rR1 5 (some 119) (fun K hK=>?_);go_simp;have hk:=HX x1 (.slice pa40 x1.args.length ca40) (.slice px g.code.length cx) y z g w41 _ _ HD1 HV1 HBE40 C41.all (C41.o 2 rfl) (C41.o 3 rfl) (C41.o 1 rfl) ⟨HB0,by have h9:=HT1.out;omega⟩;unfold zK at hk;refine C41.gc hk (Co.gE_bd cs cl.fields _ _ x1 HB0) ?_;rintro g42 y42 z42 px42 cx42 w42 HG42 HB42 C42;clear hk C41;go_wp2;refine hK _ _ (⟨zB (C42.b 1 rfl) (j:=5) rfl,(C42.rd 1 rfl)⟩) (fun hH=>?_);clear hK K hH
   try simp only [Act.put]
   refine rR1 6 (some 120) (fun K hK=>?_);go_simp;refine C42.em HF 0 rfl HB42 (by have h9:=HT1.out;omega) 13 0 0 1 1 (m:=1) (by omega) ?_;rintro g43 y43 z43 px43 cx43 w43 HG43 HB43 C43;clear C42;go_wp2;refine hK _ _ (⟨zB (C43.b 1 rfl) (j:=5) rfl,(C43.rd 2 rfl)⟩) (fun hH=>?_);clear hK K hH
   try simp only [Act.put]
   refine rR1 7 none (fun K hK=>?_);rw [kD (by rfl)];refine C43.gw0 HF 0 rfl (fun w44 C44=>?_);clear C43;refine hK _ _ (⟨zB (C44.b 1 rfl) (j:=5) rfl,(C44.rd 2 rfl)⟩) (fun hH=>?_);clear hK K hH
   try simp only [Act.put]
   refine wpAnyH_done (by kernel_rfl) ?_ _;go_wp2;exact C44.ge 0 rfl 0 rfl results141 (by rw [Co.gE,HC.out];rw [kC (by decide)];rw [kC (by decide)];rw [kC (by decide)];rw [kC (by decide)];rw [kC (by decide)];rw [kC (by decide)];rw [kD rfl];rw [Co.gEs,Co.gEs,HG42.out];exact HG43)
  have hb7:(k == 7)=false:=kA.2 hk;have hk7:=zh hk;clear hk;by_cases hk:k=8
  ·subst hk;obtain⟨x1,rfl⟩:∃x,es= [x]:=by
    have h9:=HLE.1 (by omega)
    match es,h9 with
    | [x],_=>exact ⟨x,rfl⟩
   obtain rfl:EN=1:=HEN.symm;have HV1:=zh (zH HVS (j:=0) (e:=x1) rfl);have HD1:=zh (HDS 0 x1 rfl);obtain⟨b_,oo,rfl⟩:∃b oo,pe=some ⟨b,oo,none⟩:=by
    obtain⟨b,oo,_,e,_⟩:=SlE.get (C4.rd 2 rfl) (j:=0) (e:=x1) rfl;exact⟨b,oo,e⟩
   have HT1:Hid (m+17+Co.wE x1<=900000):=zh (by have h9:=HT.out;rw [Co.wEs,Co.wEs] at h9;simp only [kI,kQ] at h9;omega);have qe:=zF (C4.b 1 rfl);go_upto_region 29 with fail;clear qe;obtain⟨eb9,eo9,pa45,ca45,hp9,hbe45,C45⟩:=C4.elem 2 rfl (j:=0) (x:=x1) rfl;injection hp9 with e7
   injection e7 with e7 e8
   subst e7 e8;have HBE45:=zh hbe45;clear C4 hbe45;obtain⟨w46,HW,C46⟩:=C45.drewE;refine wp_region_held_drew (S:=fun W=>W.cell? ⟨E,5,none⟩=some (.slice (some ⟨b_,oo,none⟩) 1 ce)/\E6 b_ (oo) x1 (.slice pa45 x1.args.length ca45) W) (by kernel_rfl) (by rw [<-HW.out];exact⟨zB (C46.b 1 rfl) (j:=5) rfl,(C46.rd 0 rfl)⟩) (fun hH=>?_);rw [<-HW.out] at hH |-;clear HW C45;refine rU 1 (some 124) ?_;refine rU 2 (some 125) ?_;refine rU 3 (some 126) ?_;refine rU 4 (some 127) ?_;clear hH;refine rR1 0 (some 123) (fun K hK=>?_);rw [kD (by rfl)];refine glw (C46.b 2 rfl) ?_;refine hK _ _ (⟨zB (C46.b 1 rfl) (j:=5) rfl,(C46.rd 0 rfl)⟩) (fun hH=>?_);clear hK K hH
   try simp only [Act.put]
   refine rR1 5 (some 128) (fun K hK=>?_);go_simp;have hk:=HX x1 (.slice pa45 x1.args.length ca45) (.slice px g.code.length cx) y z g w46 _ _ HD1 HV1 HBE45 C46.all (C46.o 2 rfl) (C46.o 3 rfl) (C46.o 1 rfl) ⟨HB0,by have h9:=HT1.out;omega⟩;unfold zK at hk;refine C46.gc hk (Co.gE_bd cs cl.fields _ _ x1 HB0) ?_;rintro g47 y47 z47 px47 cx47 w47 HG47 HB47 C47;clear hk C46;go_wp2;refine hK _ _ (⟨zB (C47.b 1 rfl) (j:=5) rfl,(C47.rd 1 rfl)⟩) (fun hH=>?_);clear hK K hH
   try simp only [Act.put]
   refine rR1 6 (some 129) (fun K hK=>?_);go_simp;refine C47.em HF 0 rfl HB47 (by have h9:=HT1.out;omega) 14 0 0 1 1 (m:=1) (by omega) ?_;rintro g48 y48 z48 px48 cx48 w48 HG48 HB48 C48;clear C47;go_wp2;refine hK _ _ (⟨zB (C48.b 1 rfl) (j:=5) rfl,(C48.rd 2 rfl)⟩) (fun hH=>?_);clear hK K hH
   try simp only [Act.put]
   refine rR1 7 none (fun K hK=>?_);rw [kD (by rfl)];refine C48.gw0 HF 0 rfl (fun w49 C49=>?_);clear C48;refine hK _ _ (⟨zB (C49.b 1 rfl) (j:=5) rfl,(C49.rd 2 rfl)⟩) (fun hH=>?_);clear hK K hH
   try simp only [Act.put]
   refine wpAnyH_done (by kernel_rfl) ?_ _;go_wp2;exact C49.ge 0 rfl 0 rfl results141 (by rw [Co.gE,HC.out];rw [kC (by decide)];rw [kC (by decide)];rw [kC (by decide)];rw [kC (by decide)];rw [kC (by decide)];rw [kC (by decide)];rw [kC (by decide)];rw [kD rfl];rw [Co.gEs,Co.gEs,HG47.out];exact HG48)
  have hb8:(k == 8)=false:=kA.2 hk;have hk8:=zh hk;clear hk;by_cases hk:k=9
  ·subst hk;obtain⟨x1,rfl⟩:∃x,es= [x]:=by
    have h9:=HLE.1 (by omega)
    match es,h9 with
    | [x],_=>exact ⟨x,rfl⟩
   obtain rfl:EN=1:=HEN.symm;have HV1:=zh (zH HVS (j:=0) (e:=x1) rfl);have HD1:=zh (HDS 0 x1 rfl);obtain⟨b_,oo,rfl⟩:∃b oo,pe=some ⟨b,oo,none⟩:=by
    obtain⟨b,oo,_,e,_⟩:=SlE.get (C4.rd 2 rfl) (j:=0) (e:=x1) rfl;exact⟨b,oo,e⟩
   have HT1:Hid (m+17+Co.wE x1<=900000):=zh (by have h9:=HT.out;rw [Co.wEs,Co.wEs] at h9;simp only [kI,kQ] at h9;omega);have qe:=zF (C4.b 1 rfl);go_upto_region 31 with fail;clear qe;obtain⟨eb9,eo9,pa50,ca50,hp9,hbe50,C50⟩:=C4.elem 2 rfl (j:=0) (x:=x1) rfl;injection hp9 with e7
   injection e7 with e7 e8
   subst e7 e8;have HBE50:=zh hbe50;clear C4 hbe50;obtain⟨w51,HW,C51⟩:=C50.drewE;refine wp_region_held_drew (S:=fun W=>W.cell? ⟨E,5,none⟩=some (.slice (some ⟨b_,oo,none⟩) 1 ce)/\E6 b_ (oo) x1 (.slice pa50 x1.args.length ca50) W) (by kernel_rfl) (by rw [<-HW.out];exact⟨zB (C51.b 1 rfl) (j:=5) rfl,(C51.rd 0 rfl)⟩) (fun hH=>?_);rw [<-HW.out] at hH |-;clear HW C50;refine rU 1 (some 133) ?_;refine rU 2 (some 134) ?_;refine rU 3 (some 135) ?_;refine rU 4 (some 136) ?_;clear hH;refine rR1 0 (some 132) (fun K hK=>?_);rw [kD (by rfl)];refine glw (C51.b 2 rfl) ?_;refine hK _ _ (⟨zB (C51.b 1 rfl) (j:=5) rfl,(C51.rd 0 rfl)⟩) (fun hH=>?_);clear hK K hH
   try simp only [Act.put]
   refine rR1 5 (some 137) (fun K hK=>?_);go_simp;have hk:=HX x1 (.slice pa50 x1.args.length ca50) (.slice px g.code.length cx) y z g w51 _ _ HD1 HV1 HBE50 C51.all (C51.o 2 rfl) (C51.o 3 rfl) (C51.o 1 rfl) ⟨HB0,by have h9:=HT1.out;omega⟩;unfold zK at hk;refine C51.gc hk (Co.gE_bd cs cl.fields _ _ x1 HB0) ?_;rintro g52 y52 z52 px52 cx52 w52 HG52 HB52 C52;clear hk C51;go_wp2;refine hK _ _ (⟨zB (C52.b 1 rfl) (j:=5) rfl,(C52.rd 1 rfl)⟩) (fun hH=>?_);clear hK K hH
   try simp only [Act.put]
   refine rR1 6 (some 138) (fun K hK=>?_);go_simp;refine C52.em HF 0 rfl HB52 (by have h9:=HT1.out;omega) 15 0 0 1 1 (m:=1) (by omega) ?_;rintro g53 y53 z53 px53 cx53 w53 HG53 HB53 C53;clear C52;go_wp2;refine hK _ _ (⟨zB (C53.b 1 rfl) (j:=5) rfl,(C53.rd 2 rfl)⟩) (fun hH=>?_);clear hK K hH
   try simp only [Act.put]
   refine rR1 7 none (fun K hK=>?_);rw [kD (by rfl)];refine C53.gw0 HF 0 rfl (fun w54 C54=>?_);clear C53;refine hK _ _ (⟨zB (C54.b 1 rfl) (j:=5) rfl,(C54.rd 2 rfl)⟩) (fun hH=>?_);clear hK K hH
   try simp only [Act.put]
   refine wpAnyH_done (by kernel_rfl) ?_ _;go_wp2;exact C54.ge 0 rfl 0 rfl results141 (by rw [Co.gE,HC.out];rw [kC (by decide)];rw [kC (by decide)];rw [kC (by decide)];rw [kC (by decide)];rw [kC (by decide)];rw [kC (by decide)];rw [kC (by decide)];rw [kC (by decide)];rw [kD rfl];rw [Co.gEs,Co.gEs,HG52.out];exact HG53)
  have hb9:(k == 9)=false:=kA.2 hk;have hk9:=zh hk;clear hk;have hk10:k=10:=by
   have h9:=HLE.2.2.2;have h0:k≠0:=fun h=>by
    subst h;have h8:=HC.out;exact absurd h8 (by unfold Co.const;simp)
   have:=hk1.out;have:=hk2.out;have:=hk3.out;have:=hk4.out;have:=hk5.out;have:=hk6.out;have:=hk7.out;have:=hk8.out;have:=hk9.out;omega
  subst hk10;by_cases ho:o=11
  ·subst ho;have qe:=zF (C4.b 1 rfl);go_upto_region 33 with fail;clear qe;go_wp2_with (first|(refine gl (C4.b 2 rfl) ?_)|(refine wpList_load_row rfl _ _ rfl E rfl _ _ _ _ (C4.b 1 rfl) underlying37 rfl (by kernel_rfl) ?_));have hk:=zLX (a:=a) (b:=b) (c:=c) HX HF (.mk 10 11 i nm at_ es) rfl HD9 HV9 C4.all (C4.o 0 rfl) (C4.o 1 rfl) (C4.o 2 rfl) ⟨HB0,by have h9:=HT.out;show m+Co.wEs es+9<=900000;omega⟩ 19 0;unfold zK at hk;simp only [Tr.E.kind,Tr.E.op,Tr.E.int,Tr.E.name,Tr.E.at_,Tr.E.args] at hk;refine C4.gc hk (Co.gL_bd cs cl.fields _ _ 19 0 es HB0) ?_;rintro g55 y55 z55 px55 cx55 w55 HG55 HB55 C55;clear hk C4;go_wp2_with (refine C55.gs0 HF 0 rfl ?_;intro w56 C56);clear C55;have HFIN:Hid (Co.gE cs cl.fields g (.mk 10 11 i nm at_ es)=g55):=zh (by rw [Co.gE,HC.out];rw [kC (by decide)];rw [kC (by decide)];rw [kC (by decide)];rw [kC (by decide)];rw [kC (by decide)];rw [kC (by decide)];rw [kC (by decide)];rw [kC (by decide)];rw [kC (by decide)];rw [kD rfl];exact HG55);exact C56.ge 0 rfl 0 rfl results141 HFIN
  have ho11:(o == 11)=false:=kA.2 ho;have hn11:=zh ho;clear ho;by_cases ho:o=12
  ·subst ho;have qe:=zF (C4.b 1 rfl);go_upto_region 35 with fail;clear qe;go_wp2_with (first|(refine gl (C4.b 2 rfl) ?_)|(refine wpList_load_row rfl _ _ rfl E rfl _ _ _ _ (C4.b 1 rfl) underlying37 rfl (by kernel_rfl) ?_));have hk:=zLX (a:=a) (b:=b) (c:=c) HX HF (.mk 10 12 i nm at_ es) rfl HD9 HV9 C4.all (C4.o 0 rfl) (C4.o 1 rfl) (C4.o 2 rfl) ⟨HB0,by have h9:=HT.out;show m+Co.wEs es+9<=900000;omega⟩ 20 1;unfold zK at hk;simp only [Tr.E.kind,Tr.E.op,Tr.E.int,Tr.E.name,Tr.E.at_,Tr.E.args] at hk;refine C4.gc hk (Co.gL_bd cs cl.fields _ _ 20 1 es HB0) ?_;rintro g57 y57 z57 px57 cx57 w57 HG57 HB57 C57;clear hk C4;go_wp2_with (refine C57.gs0 HF 0 rfl ?_;intro w58 C58);clear C57;have HFIN:Hid (Co.gE cs cl.fields g (.mk 10 12 i nm at_ es)=g57):=zh (by rw [Co.gE,HC.out];rw [kC (by decide)];rw [kC (by decide)];rw [kC (by decide)];rw [kC (by decide)];rw [kC (by decide)];rw [kC (by decide)];rw [kC (by decide)];rw [kC (by decide)];rw [kC (by decide)];rw [kC (by decide)];rw [kD rfl];exact HG57);exact C58.ge 0 rfl 0 rfl results141 HFIN
  have ho12:(o == 12)=false:=kA.2 ho;have hn12:=zh ho;clear ho;have qe:=zF (C4.b 1 rfl);go_upto_region 36 with fail;clear qe;obtain⟨w59,HW,C59⟩:=C4.drewE;refine wp_region_held_drew (S:=fun W=>(G12 G a cl b c (.slice px g.code.length cx) y z g W)/\W.cell? ⟨E,5,none⟩=some (.slice pe EN ce)/\W.cell? ⟨E,1,none⟩=some (.int .i64 o)) (by kernel_rfl) (by rw [<-HW.out];exact⟨cs12 (C59.b 2 rfl),zB (C59.b 1 rfl) (j:=5) rfl,zB (C59.b 1 rfl) (j:=1) rfl⟩) (fun hH=>?_);rw [<-HW.out] at hH |-;clear HW C4;refine rU 0 (some 151) ?_;refine rU 1 (some 152) ?_;refine rU 2 (some 153) ?_;refine rU 4 (some 155) ?_;refine rU 5 (some 156) ?_;clear hH;refine rR1 3 (some 154) (fun K hK=>?_);go_simp;have hk:=zCR (a:=a) (b:=b) (c:=c) HX HF es (v:= .slice pe EN ce) (fun e9 he9=>by obtain⟨j9,hj9⟩:=List.mem_iff_getElem?.1 he9;exact HDS j9 e9 hj9) HVS C59.all (C59.o 0 rfl) (C59.o 1 rfl) (C59.o 2 rfl) ⟨HB0,by have h9:=HT.out;omega⟩;refine C59.gc (zCR (a:=a) (b:=b) (c:=c) HX HF es (v:= .slice pe EN ce) (fun e9 he9=>by obtain⟨j9,hj9⟩:=List.mem_iff_getElem?.1 he9;exact HDS j9 e9 hj9) HVS C59.all (C59.o 0 rfl) (C59.o 1 rfl) (C59.o 2 rfl) ⟨HB0,by have h9:=HT.out;omega⟩) (Co.zBX cs cl.fields _ _ es HB0) ?_;rintro g60 y60 z60 px60 cx60 w60 HG60 HB60 C60;clear C59;go_wp2;refine hK _ _ (⟨cs12 (C60.b 2 rfl),zB (C60.b 1 rfl) (j:=5) rfl,zB (C60.b 1 rfl) (j:=1) rfl⟩) (fun hH=>?_);clear hK K hH
  try simp only [Act.put]
  refine rR1 6 (some 157) (fun K hK=>?_);go_simp;refine C60.em HF 0 rfl HB60 (by have h9:=HT.out;omega) 16 o 0 2 1 (m:=2) (by omega) ?_;rintro g61 y61 z61 px61 cx61 w61 HG61 HB61 C61;clear C60;go_wp2;refine hK _ _ (⟨cs12 (C61.b 2 rfl),zB (C61.b 1 rfl) (j:=5) rfl,zB (C61.b 1 rfl) (j:=1) rfl⟩) (fun hH=>?_);clear hK K hH
  try simp only [Act.put]
  refine rR1 7 none (fun K hK=>?_);rw [kD (by rfl)];refine C61.gw0 HF 0 rfl (fun w62 C62=>?_);clear C61;refine hK _ _ (⟨cs12 (C62.b 2 rfl),zB (C62.b 1 rfl) (j:=5) rfl,zB (C62.b 1 rfl) (j:=1) rfl⟩) (fun hH=>?_);clear hK K hH
  try simp only [Act.put]
  refine wpAnyH_done (by kernel_rfl) ?_ _;go_wp2_with fail;have HFIN:Hid (Co.gE cs cl.fields g (.mk 10 o i nm at_ es)=g61):=zh (by rw [Co.gE,HC.out];rw [kC (by decide)];rw [kC (by decide)];rw [kC (by decide)];rw [kC (by decide)];rw [kC (by decide)];rw [kC (by decide)];rw [kC (by decide)];rw [kC (by decide)];rw [kC (by decide)];rw [kC hn11.out,kC hn12.out,HG60.out];exact HG61);exact C62.ge 0 rfl 0 rfl results141 HFIN
theorem zLY {a b c:Value} {cs:List Tr.C} {cl:Tr.C} (hF:a.oneCell'=true/\b.oneCell'=true/\c.oneCell'=true):∀d:Nat,XC a b c cs cl d
 |0=>fun e _ _ _ _ _ _ _ _ hd=>by
  exfalso;cases e;rw [Tr.E.deep] at hd;omega
 |d+1=>zTX hF (zLY hF d)
def YC (a b c:Value) (cs:List Tr.C) (cl:Tr.C) (d:Nat):Prop:=∀(s:Tr.S) (xv yv zv x y z:Value) (g:Co.G) (w:World) (l:List Nat) (m:Nat),s.deep<=d->Tr.zI s=true->BdS s->(∀q∈l,q<w.heap.size)->RG x y z g (hide (upL 0 l) w)->RF a b cs cl (hide (upL 0 l) w)->RE xv s.exprs (hide (upL 0 l) w)->RS yv s.body (hide (upL 0 l) w)->RS zv s.els (hide (upL 0 l) w)->(Co.Bd m g/\m+Co.wS s<=900000)->
    Calls prog 99 #[.agg (gC a cl b c x y z g),stmtV s xv yv zv] w (GP a b c cl l (Co.gS cs cl.fields g s) w)
def YB (a b c:Value) (cs:List Tr.C) (cl:Tr.C) (d:Nat):Prop:=∀(ss:List Tr.S) (v x y z:Value) (g:Co.G) (w:World) (l:List Nat) (m:Nat),Tr.S.deep.deeps ss<=d->Tr.zV ss=true->(∀q∈l,q<w.heap.size)->RG x y z g (hide (upL 0 l) w)->RF a b cs cl (hide (upL 0 l) w)->RS v ss (hide (upL 0 l) w)->(Co.Bd m g/\m+Co.wSs ss<=900000)->
    Calls prog 62 #[.agg (gC a cl b c x y z g),v] w (GP a b c cl l (Co.gB cs cl.fields g ss) w)
def A5s (b o:Nat) (s:Tr.S) (x y z:Value):World->Prop:=fun W=>CellsS W b o s x y z
theorem a5s_mn {b o:Nat} {s:Tr.S} {x y z:Value}:Mn (A5s b o s x y z):=fun _ _ hi h=>⟨hi.2 _ _ _ h.1,hi.2 _ _ _ h.2.1,hi.2 _ _ _ h.2.2.1,hi.2 _ _ _ h.2.2.2.1,hi.2 _ _ _ h.2.2.2.2⟩
theorem Mh.elemS {l:List Nat} {w W:World} {bs:List Bk} {os:List (World->Prop)} (h:Mh l w bs os W) (i:Nat) {p:Option Addr} {N c:Nat} {ss:List Tr.S} (hi:os[i]? =some (RS (.slice p N c) ss)) {j:Nat} {s:Tr.S} (hs:ss[j]? =some s):
 ∃b o px nx cx py ny cy pz nz cz,p=some ⟨b,o,none⟩/\BdS s/\Hid (Mh l w bs (A5s b (o+j*5) s (.slice px nx cx) (.slice py ny cy) (.slice pz nz cz)::RE (.slice px nx cx) s.exprs::RS (.slice py ny cy) s.body::RS (.slice pz nz cz) s.els::os) W):=by
 obtain⟨b,o,x,y,z,hp,hb,hc,hbd,h1,h2,h3⟩:=SlS.get (h.o i hi) hs;obtain⟨px,cx,rfl,_⟩:=h1.form;obtain⟨py,cy,rfl,_⟩:=h2.form;obtain⟨pz,cz,rfl,_⟩:=h3.form;exact⟨b,o,_,_,_,_,_,_,_,_,_,hp,hbd,zh ((((h.get rs_mn h3).get rs_mn h2).get re_mn h1).get a5s_mn hc)⟩
theorem deeps_get:∀ {l:List Tr.S} {j:Nat} {x:Tr.S},l[j]? =some x->x.deep<=Tr.S.deep.deeps l
 | [],j,x,h=>by simp at h
 |y::r,0,x,h=>by cases h;rw [Tr.S.deep.deeps];omega
 |y::r,j+1,x,h=>by
  rw [Tr.S.deep.deeps];have:=deeps_get (l:=r) (j:=j) (x:=x) (by simpa using h);omega
theorem zLZ {a b c:Value} {cs:List Tr.C} {cl:Tr.C} (hF:a.oneCell'=true/\b.oneCell'=true/\c.oneCell'=true) {d:Nat} (hY:YC a b c cs cl d):YB a b c cs cl d:=by
 intro ss v x y z g w l m hd hv hl hr hf he hbd;have HY:=zh hY;have HF:=zh hF;have HD:=zh hd;have HV:=zh hv;have HBD:=zh hbd;obtain⟨p,ce,rfl,_⟩:=he.form;obtain⟨EN,hEN⟩:∃q,ss.length=q:=⟨_,rfl⟩;have HEN:=zh hEN;obtain⟨pz,cz,hz9⟩:=hr.vars.form;subst hz9;have hEB:EN<=900000:=by have:=zMI ss;have:=hbd.2;omega
 have he2:RS (.slice p ss.length ce) ss (hide (upL 0 l) w):=he;clear he;rw [hEN] at he2 |-;have C0:=zh (Mh.start (os:= [RG x y (.slice pz g.vars.length cz) g,RF a b cs cl,RS (.slice p EN ce) ss,RG x y (.slice pz g.vars.length cz) g]) hl (fun r h=>by
  simp only [kV,List.not_mem_nil,or_false] at h;rcases h with rfl|rfl|rfl|rfl
  ·exact⟨rg_mn,hr⟩
  ·exact⟨rf_mn,hf⟩
  ·exact⟨rs_mn,he2⟩
  ·exact⟨rg_mn,hr⟩))
 clear hY hF hd hv hbd hl hr hf he2 hEN;obtain⟨G,w1,HX1,HW1,hx1,C1⟩:=C0.boxE (gC a cl b c x y (.slice pz g.vars.length cz) g) 116;obtain⟨R,w2,HX2,HW2,hx2,C2⟩:=C1.boxE zro 116;have HY2:Hid (R=G+1):=zh (by rw [HX2.out,HW1.out,HX1.out];simp);go_in;go_upto_region 1 with fail;rw [<-HX1.out,<-HW1.out,<-HY2.out,<-HW2.out];clear HX1 HW1 C0 HY2 HX2 HW2 C1;have qg:=zAC (C2.b 1 rfl);go_wp2_with fail;clear qg
 go_loopg [6] EN (fun gg s6 wr=>∃(j:Nat) (x1 y1 z1:Value) (g1:Co.G),s6= .int .i64 j/\j<=EN/\gg=EN -j/\Hid (Co.gSs cs cl.fields g (ss.take j)=g1)/\Hid (Mh l w [(R,zro,116),(G,gC a cl b c x1 y1 z1 g1,116)] [RG x1 y1 z1 g1,RF a b cs cl,RS (.slice p EN ce) ss,RG x y (.slice pz g.vars.length cz) g] wr))
 case atStart=>exact ⟨0,x,y,_,g,rfl,kO _,rfl,zh (by rw [List.take_zero,Co.gSs]),C2⟩
 case round=>
  clear C2;obtain⟨j,x1,y1,z1,g1,rfl,hj,hgg,HG1,CR⟩:=hrel;obtain⟨w_,hw_⟩:∃q,q=wr:=⟨_,rfl⟩;rw [<-hw_] at CR |-;clear hw_;by_cases hlt:j<EN
  ·obtain⟨e,he⟩:∃e,ss[j]? =some e:=⟨_,kB (by rw [HEN.out];exact hlt)⟩;obtain⟨eb,eo,pa,na,ca,pb,nb,cb,pc,nc,cc,hp,hbe,CE⟩:=CR.elemS 2 rfl he;subst hp;have HE:=zh he;have HBE:=zh hbe;clear he hbe CR;have hj0:(0:Int)<=(j:Int):=(by omega);have hj1:(j:Int)<(EN:Int):=(by omega);go_upto_region 5 with fail;obtain⟨w3,HW,C3⟩:=CE.drewE;refine wp_region_held_drew (S:=fun W=>W.cell? ⟨eb,eo+j*5,none⟩=some (.int .i64 e.kind)/\W.cell? ⟨eb,eo+j*5+1,none⟩=some (.string e.name)/\W.cell? ⟨eb,eo+j*5+2,none⟩=some (.slice pa na ca)/\W.cell? ⟨eb,eo+j*5+3,none⟩=some (.slice pb nb cb)/\W.cell? ⟨eb,eo+j*5+4,none⟩=some (.slice pc nc cc)) (by kernel_rfl) (by rw [<-HW.out];exact(C3.rd 0 rfl)) (fun hH=>?_);rw [<-HW.out] at hH |-;clear HW CE;refine rU 1 (some 16) ?_;refine rU 2 (some 17) ?_;refine rU 3 (some 18) ?_;refine rU 4 (some 19) ?_;clear hj0 hj1 hH;refine rR1 0 (some 15) (fun K hK=>?_);rw [kD (by rfl)];refine glw (C3.b 1 rfl) ?_;refine hK _ _ ((C3.rd 0 rfl)) (fun hH=>?_);clear hK K hH
   try simp only [Act.put]
   refine rR1 5 (some 20) (fun K hK=>?_);go_simp;have hk:=HY e (.slice pa na ca) (.slice pb nb cb) (.slice pc nc cc) x1 y1 z1 g1 w3 _ (m+Co.wSs (ss.take j)) (kG (deeps_get HE) HD) (zET HV HE) HBE C3.all (C3.o 4 rfl) (C3.o 5 rfl) (C3.o 1 rfl) (C3.o 2 rfl) (C3.o 3 rfl) ⟨by rw [<-HG1.out];exact Co.zDD _ _ _ _ _ HBD.1,by have:=zJW HE;have:=HBD.2;omega⟩;unfold stmtV at hk;obtain⟨g4,hg4⟩:∃q,Co.gS cs cl.fields g1 e=q:=⟨_,rfl⟩;rw [hg4] at hk;have HG4:=zh hg4;refine hk.mono ?_;clear hk hg4;rintro e_ w4 ⟨x4,y4,z4,rfl,hb9,hr9⟩;have C4:=zh (C3.call hb9 (r:=RG x4 y4 z4 g4) rg_mn hr9);clear hb9 hr9 C3;go_wp2;refine hK _ _ ((C4.rd 1 rfl)) (fun hH=>?_);clear hK K hH
   try simp only [Act.put]
   refine rR1 6 none (fun K hK=>?_);rw [kD (by rfl)];have h1:=zFV (a:=a) (b:=b) (c:=c) (cl:=cl) HF (C4.rd 0 rfl);obtain⟨w5,HW,C5⟩:=C4.setRowE 1 rfl (gC a cl b c x4 y4 z4 g4);dsimp only [List.set] at C5;refine wp_store_row _ _ _ rfl G (gC a cl b c x4 y4 z4 g4) rfl rfl _ _ (C4.b 1 rfl) (by kernel_rfl) rfl h1 ?_;rw [<-HW.out];clear HW C4 h1;refine hK _ _ ((C5.rd 1 rfl)) (fun hH=>?_);clear hK K hH
   try simp only [Act.put]
   refine wpAnyH_done (by kernel_rfl) ?_ _;go_wp2;go_roundg (EN -(j+1))
   case measure=>omega
   case rel=>exact ⟨j+1,x4,y4,z4,g4,by go_num,by omega,rfl,zh (by rw [List.take_add_one,HE.out];show Co.gSs cs cl.fields g (ss.take j++ [e])=_;rw [zM7,HG1.out,HG4.out]),zh (C5.few (fun r hr=>by simp only [kV,List.not_mem_nil,or_false] at hr |-;rcases hr with h|h|h|h<;>simp [h]))⟩
  ·obtain rfl:EN=j:=by omega
   have HGE:Hid (Co.gSs cs cl.fields g ss=g1):=zh (by have h9:=HG1.out;rw [kR (by rw [HEN.out];exact kL _)] at h9;exact h9);have qg:=zAC (CR.b 1 rfl);go_upto_region 7 with fail;clear qg;obtain⟨g2,hg2⟩:∃q,({ g1 with vars:=g.vars }:Co.G)=q:=⟨_,rfl⟩;have hrr:RG x1 y1 (.slice pz g.vars.length cz) g2 (hide (upL 0 (l++ [R,G])) w_):=by rw [<-hg2];exact⟨(CR.o 0 rfl).code,(CR.o 0 rfl).names,(CR.o 3 rfl).vars⟩
   have CG:=zh (CR.get rg_mn hrr);have hgw:=zW w_ G 7 (.slice pz g.vars.length cz);have hgh:=heap_set (j:=7) (.slice pz g.vars.length cz) (CG.b 1 rfl);obtain⟨w6,HW⟩:∃q,Hid (q=w_.setCell ⟨G,7,none⟩ (.slice pz g.vars.length cz)):=⟨_,zh rfl⟩;rw [<-HW.out] at hgw hgh |-;have C6:=zh ((CG.set 1 rfl hgw hgh).nrm (bs':= [(R,zro,116),(G,gC a cl b c x1 y1 (.slice pz g.vars.length cz) g2,116)]) (by rw [<-hg2];rfl));have HG2:=zh hg2;clear hg2 hrr CG CR hgw hgh HW;go_wp2_with (first|(refine gl (C6.b 1 rfl) ?_)|(refine C6.gs0 HF 0 rfl ?_;intro w7 C7));clear C6;have HFIN:Hid (Co.gB cs cl.fields g ss=g2):=zh (by unfold Co.gB Co.shut;rw [HGE.out];exact HG2);exact C7.ge 0 rfl 0 rfl results62 HFIN
end Cw
end Go.Proofs.YtcnmfcgmnkncaaaGreatDoor
