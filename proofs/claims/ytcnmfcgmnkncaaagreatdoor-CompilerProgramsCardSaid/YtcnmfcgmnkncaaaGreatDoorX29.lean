/-
  CoAwake, CoLawBase, CoObs, CoVal, CgBase, CgEmit.
-/
import Derived.Test.YtcnmfcgmnkncaaaGreatDoorX25
import Derived.Test.YtcnmfcgmnkncaaaGreatDoorX28
set_option maxRecDepth 100000
set_option maxHeartbeats 40000000
open Go.Proofs.Tryz
namespace Go.Proofs.YtcnmfcgmnkncaaaGreatDoor
section
namespace Cw
open Go.RowKit Go.Maps Pw
theorem Mz.retP1 {B0 V:Nat} {w W:World} {o0 ow:List Nat} {Q:World->Prop} {bs:List Bk} {os:List (World->Prop)} {R:Nat} {x0 y0:Value} (h:Mz B0 V w o0 Q ow bs os W) (i:Nat) (hi:bs[i]? =some (R,#[y0],24)) {fn:Func} {q:Tmp} {A:Act} (hr:fn.results= #[.cell q 24]) (hq:A.tmps.getD q undef= .pointer (some ⟨R,0,none⟩)) (hd:A.defers= []) {Post:Ending->World->Prop}
 (hp:∀W',Mz B0 V w o0 Q ow (bs.set i (R,#[x0],24)) os W'->Post (.returned (.agg #[x0])) W'):
 bodyPost prog fn Post .ret A (W.setCell ⟨R,0,none⟩ x0):=by
 have h2:=h.set i hi (zW W R 0 x0) (heap_set (j:=0) x0 (h.b i hi));have hil:i<bs.length:=(kJ.1 hi).1;have hS:=h2.b i (X:=R) (cs:= #[x0]) (by rw [List.getElem?_set,kD rfl,kD hil];rfl);exact bodyPost_ret (v:= .agg #[x0]) (results_cell_row hr _ _ R _ _ _ _ hq hS underlying24 rfl (by kernel_rfl)) hd (hp _ h2)
end Cw
namespace Co
open Tr
def exA:E:= .mk 3 0 0 ⟨#[97]⟩ false []
def exI (n:Int):E:= .mk 0 0 n ⟨#[]⟩ false []
def exSub:E:= .mk 10 1 0 ⟨#[]⟩ false [exI 2,exI 1]
def exLess:E:= .mk 10 7 0 ⟨#[]⟩ false [exA,exSub]
def exBoth:E:= .mk 10 11 0 ⟨#[]⟩ false [exA,exI 3]
def exS1:S:= .mk 6 ⟨#[]⟩ [exBoth] [] []
def exS0:S:= .mk 3 ⟨#[]⟩ [exLess] [exS1] []
def exM:M:=⟨⟨#[103,111]⟩,[⟨#[97]⟩],[exS0]⟩
def exC:C:=⟨⟨#[65]⟩,true,[],[exM]⟩
def exCs:List C:= [exC]
def exCode:List Ins:= [(3,0,0),(0,1,0),(16,7,0),(19,11,0),(3,0,0),(19,9,0),(0,3,0),(17,0,0),(18,10,0),(0,0,0),(22,0,0),(25,0,0)]
def exCc:Cc:=⟨⟨#[65]⟩,true,[],[⟨⟨#[103,111]⟩,1,1,exCode,[]⟩]⟩
theorem zR6:Tr.fewP exCs 150=true:=by decide+kernel
theorem zT2:Ck.check exCs= []:=by decide+kernel
theorem zR7:ccsOf exCs exCs=some [exCc]:=by kernel_rfl
def exN:E:= .mk 9 0 0 ⟨#[]⟩ false [exI 5]
theorem zVH:foldV exN=exI 0:=by kernel_rfl
theorem SmC.mono {N N':Nat} {c:C} (h:SmC N c) (hn:N<=N'):SmC N' c:=⟨kG h.ms hn,kG h.fs hn,h.nm,h.sz,fun m hm=>⟨by have:=(h.all m hm).w;omega,kG (h.all m hm).ps hn,(h.all m hm).sz,(h.all m hm).nm⟩⟩
theorem zUN {l:List C} {n:Nat} (h:fewP l n=true) (hn:n<=1000):l.length<=1000/\∀c∈l,SmC 1000 c:=⟨kG (zL4 h).1 hn,fun c hc=>((zL4 h).2 c hc).mono hn⟩
end Co
namespace Cw
open Go.RowKit Go.Maps Pw
instance decI64' (n:Int):Decidable (Tr.I64 n):=by unfold Tr.I64;infer_instance
theorem zOH (n:Int) (h:Tr.I64 n):BdE (Co.exI n):=bdE_mk (zBS (n:=0) (by decide) (by decide)) (zBS (n:=0) (by decide) (by decide)) h zGZ
theorem zT8:BdE Co.exSub:=⟨by decide,by decide,by decide,by decide⟩
theorem zUP:BdE Co.exA:=⟨by decide,by decide,by decide,by decide⟩
theorem zU1 {W:World} {g:Nat} {cs:Array Value} {t:TypeId} {l:List Co.Ins} (h:W.heap[g]? =some (.cells cs t (0,0))) (hc:cs.toList=flatV iCells l) (hl:l.length<=1000):SlI W (.slice (some ⟨g,0,none⟩) l.length l.length) l:=by
 refine⟨_,_,rfl,by unfold maxLen;omega,fun _=>⟨kL _,by unfold maxLen;omega⟩,fun j x hj=>⟨g,0,rfl,lt_of_block h,?_⟩⟩;have hat:∀q u,(iCells x)[q]? =some u->q<3->W.cell? ⟨g,j*3+q,none⟩=some u:=fun q u hu hq=>zB h (by rw [<-Array.getElem?_toList,hc,flatV_get iCells 3 zBW l j x q hq hj,hu])
 rw [Nat.zero_add];exact⟨hat 0 _ rfl (by omega),hat 1 _ rfl (by omega),hat 2 _ rfl (by omega)⟩
def ExPost (w:World) (e:Ending) (w':World):Prop:=∃v,e= .returned (.agg #[v])/\SlC w' v Co.exCs/\Below w.heap.size w w'
theorem zKK (w:World):Calls prog 30 #[] w (ExPost w):=by
 have C0:=zh (My.start w);go_in;obtain⟨R,w1,HX1,HW1,hx1,C1⟩:=C0.boxE #[.slice none 0 0] 24;go_upto_region 1 with fail;rw [<-HX1.out,<-HW1.out];clear HX1 HW1 C0;obtain⟨A,w2,HX2,HW2,hx2,C2⟩:=C1.boxE #[.int .i64 3,.int .i64 0,.int .i64 0,.string ⟨#[97]⟩,.bool false,.slice none 0 0] 37;go_upto_region 2 with fail;rw [<-HX2.out,<-HW2.out];clear HX2 HW2 C1;have q0:=zF (C2.b 0 rfl);obtain⟨L2,w3,HX3,HW3,hx3,C3⟩:=C2.boxE #[.int .i64 0,.int .i64 0,.int .i64 2,.string ⟨#[]⟩,.bool false,.slice none 0 0,.int .i64 0,.int .i64 0,.int .i64 1,.string ⟨#[]⟩,.bool false,.slice none 0 0] 37;obtain⟨L1,w4,HX4,HW4,hx4,C4⟩:=C3.boxE #[.int .i64 3,.int .i64 0,.int .i64 0,.string ⟨#[97]⟩,.bool false,.slice none 0 0,.int .i64 10,.int .i64 1,.int .i64 0,.string ⟨#[]⟩,.bool false,.slice (some ⟨L2,0,none⟩) 2 2] 37;have HY4:Hid (L1=L2+1):=zh (by rw [HX4.out,HW3.out,HX3.out];simp);obtain⟨LE,w5,HX5,HW5,hx5,C5⟩:=C4.boxE #[.int .i64 10,.int .i64 7,.int .i64 0,.string ⟨#[]⟩,.bool false,.slice (some ⟨L1,0,none⟩) 2 2] 37;have HY5:Hid (LE=L1+1):=zh (by rw [HX5.out,HW4.out,HX4.out];simp);go_upto_region 3 with fail;rw [<-HX3.out,<-HW3.out,<-HY4.out,<-HW4.out,<-HY5.out,<-HW5.out];clear HX3 HW3 C2 HY4 HX4 HW4 C3 HY5 HX5 HW5 C4 q0;have q3:=zF (C5.b 3 rfl);obtain⟨B2,w6,HX6,HW6,hx6,C6⟩:=C5.boxE #[.int .i64 3,.int .i64 0,.int .i64 0,.string ⟨#[97]⟩,.bool false,.slice none 0 0,.int .i64 0,.int .i64 0,.int .i64 3,.string ⟨#[]⟩,.bool false,.slice none 0 0] 37;obtain⟨BO,w7,HX7,HW7,hx7,C7⟩:=C6.boxE #[.int .i64 10,.int .i64 11,.int .i64 0,.string ⟨#[]⟩,.bool false,.slice (some ⟨B2,0,none⟩) 2 2] 37;have HY7:Hid (BO=B2+1):=zh (by rw [HX7.out,HW6.out,HX6.out];simp);go_upto_region 4 with fail;rw [<-HX6.out,<-HW6.out,<-HY7.out,<-HW7.out];clear HX6 HW6 C5 HY7 HX7 HW7 C6 q3;have q2:=zF (C7.b 2 rfl);have q0:=zF (C7.b 0 rfl);obtain⟨LS,w8,HX8,HW8,hx8,C8⟩:=C7.boxE #[.int .i64 10,.int .i64 7,.int .i64 0,.string ⟨#[]⟩,.bool false,.slice (some ⟨L1,0,none⟩) 2 2] 37;obtain⟨BS,w9,HX9,HW9,hx9,C9⟩:=C8.boxE #[.int .i64 10,.int .i64 11,.int .i64 0,.string ⟨#[]⟩,.bool false,.slice (some ⟨B2,0,none⟩) 2 2] 37;have HY9:Hid (BS=LS+1):=zh (by rw [HX9.out,HW8.out,HX8.out];simp);obtain⟨S1,w10,HX10,HW10,hx10,C10⟩:=C9.boxE #[.int .i64 6,.string ⟨#[]⟩,.slice (some ⟨BS,0,none⟩) 1 1,.slice none 0 0,.slice none 0 0] 71;have HY10:Hid (S1=BS+1):=zh (by rw [HX10.out,HW9.out,HX9.out];simp);obtain⟨S0,w11,HX11,HW11,hx11,C11⟩:=C10.boxE #[.int .i64 3,.string ⟨#[]⟩,.slice (some ⟨LS,0,none⟩) 1 1,.slice (some ⟨S1,0,none⟩) 1 1,.slice none 0 0] 71;have HY11:Hid (S0=S1+1):=zh (by rw [HX11.out,HW10.out,HX10.out];simp);go_upto_region 5 with fail;rw [<-HX8.out,<-HW8.out,<-HY9.out,<-HW9.out,<-HY10.out,<-HW10.out,<-HY11.out,<-HW11.out];clear HX8 HW8 C7 HY9 HX9 HW9 C8 HY10 HX10 HW10 C9 HY11 HX11 HW11 C10 q2 q0;have q10:=zS (C11.b 10 rfl);obtain⟨PA,w12,HX12,HW12,hx12,C12⟩:=C11.boxE #[.string ⟨#[97]⟩] 9;obtain⟨ME,w13,HX13,HW13,hx13,C13⟩:=C12.boxE #[.string ⟨#[103,111]⟩,.slice (some ⟨PA,0,none⟩) 1 1,.slice (some ⟨S0,0,none⟩) 1 1] 62;have HY13:Hid (ME=PA+1):=zh (by rw [HX13.out,HW12.out,HX12.out];simp);obtain⟨CL,w14,HX14,HW14,hx14,C14⟩:=C13.boxE #[.string ⟨#[65]⟩,.bool true,.slice none 0 0,.slice (some ⟨ME,0,none⟩) 1 1] 55;have HY14:Hid (CL=ME+1):=zh (by rw [HX14.out,HW13.out,HX13.out];simp);obtain⟨zl,zc,zf⟩:=zS (C14.b 13 rfl);simp only [HW14.out,HW13.out,HY13.out,HW12.out,HX12.out] at zl zc zf;go_wp2_with fail;rw [<-HX12.out,<-HW12.out,<-HY13.out,<-HW13.out,<-HY14.out,<-HW14.out];clear HX12 HW12 C11 HY13 HX13 HW13 C12 HY14 HX14 HW14 C13 q10;refine Mz.retP1 (Post:=ExPost w) C14 13 rfl results30 rfl rfl (fun W9 h9=>⟨_,rfl,?_,h9.gr.fresh⟩);have e2:SlE W9 (.slice (some ⟨L2,0,none⟩) 2 2) [Co.exI 2,Co.exI 1]:=zJ2 (h9.b 11 rfl) [(Co.exI 2,.slice none 0 0),(Co.exI 1,.slice none 0 0)] (by simp) rfl (fun z hz=>by
  rcases kV.1 hz with rfl|hz
  ·exact⟨zOH 2 (by decide),.nil _ _⟩
  ·rw [kT.1 hz];exact⟨zOH 1 (by decide),.nil _ _⟩)
 have e1:SlE W9 (.slice (some ⟨L1,0,none⟩) 2 2) [Co.exA,Co.exSub]:=zJ2 (h9.b 10 rfl) [(Co.exA,.slice none 0 0),(Co.exSub,.slice (some ⟨L2,0,none⟩) 2 2)] (by simp) rfl (fun z hz=>by
  rcases kV.1 hz with rfl|hz
  ·exact⟨zUP,.nil _ _⟩
  ·rw [kT.1 hz];exact⟨zT8,e2⟩)
 have b2:SlE W9 (.slice (some ⟨B2,0,none⟩) 2 2) [Co.exA,Co.exI 3]:=zJ2 (h9.b 8 rfl) [(Co.exA,.slice none 0 0),(Co.exI 3,.slice none 0 0)] (by simp) rfl (fun z hz=>by
  rcases kV.1 hz with rfl|hz
  ·exact⟨zUP,.nil _ _⟩
  ·rw [kT.1 hz];exact⟨zOH 3 (by decide),.nil _ _⟩)
 have ls:SlE W9 (.slice (some ⟨LS,0,none⟩) 1 1) [Co.exLess]:=zFC (e:=Co.exLess) (h9.b 6 rfl) ⟨by decide,by decide,by decide,by decide⟩ e1;have bs:SlE W9 (.slice (some ⟨BS,0,none⟩) 1 1) [Co.exBoth]:=zFC (e:=Co.exBoth) (h9.b 5 rfl) ⟨by decide,by decide,by decide,by decide⟩ b2;have s1:SlS W9 (.slice (some ⟨S1,0,none⟩) 1 1) [Co.exS1]:=zNO (s:=Co.exS1) (h9.b 4 rfl) ⟨by decide,by decide⟩ bs (.nil _ _) (.nil _ _);have s0:SlS W9 (.slice (some ⟨S0,0,none⟩) 1 1) [Co.exS0]:=zNO (s:=Co.exS0) (h9.b 3 rfl) ⟨by decide,by decide⟩ ls s1 (.nil _ _);have pa:SlStr W9 (.slice (some ⟨PA,0,none⟩) 1 1) [⟨#[97]⟩]:=zQL (l:= [⟨#[97]⟩]) (h9.b 2 rfl) rfl (by decide) (fun s hs=>by rw [kT.1 hs];decide);have me:SlM W9 (.slice (some ⟨ME,0,none⟩) 1 1) [Co.exM]:=zS6 (m:=Co.exM) (h9.b 1 rfl) (by decide) pa s0;exact zS8 (c:=Co.exC) (h9.b 0 rfl) (by decide) (zK2 _ _ _) me
theorem zNL (w:World) (hE:CoEnv w):Calls prog 10 #[] w fun e w'=>e= .returned (.bool true)/\Below w.heap.size w w':=by
 have HE:=zh hE;clear hE;go_in;go_wp2_with fail;refine(zKK _).mono ?_;rintro e w1 ⟨v,rfl,hs,hb1⟩;have HS1:=zh hs;have HB1:=zh hb1;clear hs hb1;go_wp2_with fail;refine(zFL HS1 (HE.keep HB1) (Ck.zNN Co.zR6 (by decide)) (Tr.zR1 Co.zR6 (by decide)) (Co.zUN Co.zR6 (by decide))).mono ?_;rintro e w2 ⟨hb2,v2,hp⟩;rcases hp with ⟨_,l,hl,rfl,hs2⟩|⟨_,n,_,⟨r,hr⟩|⟨_,hr,_⟩⟩
 rotate_left
 ·rw [Co.zT2] at hr;cases hr
 ·rw [Co.zR7] at hr;cases hr
 rw [Co.zR7] at hl;cases hl;have HB2:=zh (HB1.trans (hb2.mono HB1.size));have hs3:SlCc w2 v2 [Co.exCc]:=SlCc.inc hs2 zBL;clear hb2 hs2;obtain⟨pc,cc,rfl,_⟩:=hs3.form;obtain⟨b1,o1,x1,y1,rfl,hl1,⟨_,_,_,u3⟩,_,_,hmm⟩:=hs3.get (j:=0) (m:=Co.exCc) rfl;obtain⟨pm,cm,rfl,_⟩:=hmm.form;obtain⟨b2,o2,x2,y2,rfl,hl2,⟨_,_,_,t3,_⟩,_,hco,_⟩:=hmm.get (j:=0) (m:=⟨⟨#[103,111]⟩,1,1,Co.exCode,[]⟩) rfl;obtain⟨pi,ci,rfl,_⟩:=hco.form;simp only [Nat.zero_mul,Nat.add_zero] at u3 t3;have hlm:Co.exCc.methods.length=1:=rfl;have hlc:Co.exCode.length=12:=rfl;have hl0: [Co.exCc].length=1:=rfl;rw [hlm] at u3;rw [hlc] at t3;rw [hl0];have C2:=zh (My.start w2);have HU:=zh u3;have HT:=zh t3;have HCO:=zh hco;clear hs3 hmm hco u3 t3 hlm hlc hl0;obtain⟨CO,w15,HX,HW,hx15,C15⟩:=C2.boxE #[.slice (some ⟨b1,o1,none⟩) 1 cc] 29;go_upto_region 2 with fail;rw [<-HX.out,<-HW.out];clear HX HW C2;have u3:=zA C15.gr.fresh HU;have t3:=zA C15.gr.fresh HT;have q0:=zS (C15.b 0 rfl);go_upto_region 4 with fail;clear u3 t3 q0;obtain⟨WA,w16,HX,HW,hx16,C16⟩:=C15.boxE #[.int .i64 3,.int .i64 0,.int .i64 0,.int .i64 0,.int .i64 1,.int .i64 0,.int .i64 16,.int .i64 7,.int .i64 0,.int .i64 19,.int .i64 11,.int .i64 0,.int .i64 3,.int .i64 0,.int .i64 0,.int .i64 19,.int .i64 9,.int .i64 0,.int .i64 0,.int .i64 3,.int .i64 0,.int .i64 17,.int .i64 0,.int .i64 0,.int .i64 18,.int .i64 10,.int .i64 0,.int .i64 0,.int .i64 0,.int .i64 0,.int .i64 22,.int .i64 0,.int .i64 0,.int .i64 25,.int .i64 0,.int .i64 0] 65;go_upto_region 5 with fail;rw [<-HX.out,<-HW.out];clear HX HW C15;have u3:=zA C16.gr.fresh HU;have t3:=zA C16.gr.fresh HT;have HWA:Hid (SlI w16 (.slice (some ⟨WA,0,none⟩) 12 12) Co.exCode):=zh (zU1 (l:=Co.exCode) (C16.b 0 rfl) rfl (by decide));have HGO:=zh (HCO.keep C16.gr.fresh);have HLC:Hid (Co.exCode.length=12):=zh rfl;have q1:=zS (C16.b 1 rfl);have hh1:=hl1;go_upto_region 8 with fail;clear u3 t3 hh1 q1;clear hl1 hl2 HU HT HCO;have CQ:=C16;go_wp2
 go_loopg [5] 12 (fun gg s5 wr=>∃j:Nat,s5= .int .i64 j/\j<=12/\gg=12 -j/\Hid (My w2 [] [] wr)/\Hid (Below w16.heap.size w16 wr))
 case atStart=>exact ⟨0,rfl,by omega,rfl,zh (CQ.sub (List.nil_sublist _)),zh (Below.refl _ _)⟩
 case round=>
  clear CQ C16;obtain⟨j,rfl,hj,rfl,CR,HBR⟩:=hrel;by_cases hlt:j<12
  ·obtain⟨x,hx⟩:∃x,Co.exCode[j]? =some x:=⟨_,kB (by rw [HLC.out];exact hlt)⟩;obtain⟨xo,xa,xb⟩:=x;have hga:=HGO.keep HBR;rw [HLC.out] at hga;obtain⟨gb1,go1,rfl,hgl,c0,c1,c2⟩:=hga.get hx;obtain⟨wb1,wo1,hwe,hwl,d0,d1,d2⟩:=(HWA.keep HBR).get hx;cases hwe;dsimp only at c0 c1 c2 d0 d1 d2;simp only [Nat.zero_add] at d0 d1 d2;have b0j:(0:Int)<=(j:Int):=(by omega);have b3j:(j:Int)<12:=(by omega);have HSH:Hid (wr.cell? ⟨gb1,go1+j*3,none⟩=some (.int .i64 xo)/\wr.cell? ⟨gb1,go1+j*3+1,none⟩=some (.int .i64 xa)/\wr.cell? ⟨gb1,go1+j*3+2,none⟩=some (.int .i64 xb)/\wr.cell? ⟨WA,j*3,none⟩=some (.int .i64 xo)/\wr.cell? ⟨WA,j*3+1,none⟩=some (.int .i64 xa)/\wr.cell? ⟨WA,j*3+2,none⟩=some (.int .i64 xb)):=zh ⟨c0,c1,c2,d0,d1,d2⟩;clear hga hx c0 c1 c2 d0 d1 d2;go_upto_region 11 with fail;obtain⟨wd,HWD,CD⟩:=CR.drewE;refine wp_region_held_drew (S:=fun W=>W.cell? ⟨gb1,go1+j*3,none⟩=some (.int .i64 xo)/\W.cell? ⟨gb1,go1+j*3+1,none⟩=some (.int .i64 xa)/\W.cell? ⟨gb1,go1+j*3+2,none⟩=some (.int .i64 xb)/\W.cell? ⟨WA,j*3,none⟩=some (.int .i64 xo)/\W.cell? ⟨WA,j*3+1,none⟩=some (.int .i64 xa)/\W.cell? ⟨WA,j*3+2,none⟩=some (.int .i64 xb)) (by kernel_rfl) (by rw [<-HWD.out];rw [HWD.out];exact HSH) (fun hH=>?_);have HBD:Hid (Below wr.heap.size wr wd):=zh (by rw [HWD.out];exact zEH (zGA (zCQ _ _)));rw [<-HWD.out] at hH |-;refine rU 0 (some 60) ?_;refine rU 1 (some 61) ?_;refine rU 2 (some 62) ?_;refine rU 3 (some 63) ?_;refine rU 4 (some 64) ?_;refine rU 5 (some 65) ?_;refine rU 6 (some 66) ?_;refine rU 7 (some 67) ?_;refine rU 8 (some 68) ?_;refine wpAnyH_done (by kernel_rfl) ?_ _;clear hH;go_wp2;go_roundg (12 -(j+1))
   case measure=>omega
   case rel=>exact ⟨j+1,by go_num,by omega,rfl,CD,zh (HBR.trans (HBD.mono HBR.size))⟩
  ·obtain rfl:j=12:=by omega
   clear HBR HWA HGO HLC hlt hj;obtain⟨NX,w17,HX,HW,hx17,C17⟩:=CR.boxE #[.int .i64 0,.int .i64 0,.int .i64 5,.string ⟨#[]⟩,.bool false,.slice none 0 0] 37;go_wp2_with fail;rw [<-HX.out,<-HW.out];clear HX HW CR;have hfo:=zUD Co.exN (.slice (some ⟨NX,0,none⟩) 1 1) w17 ((HE.keep HB2).keep C17.gr.fresh).syn.lex (by decide) ⟨by decide,by decide,by decide,by decide⟩ (zFC (e:=Co.exI 5) (C17.b 0 rfl) (zOH 5 (by decide)) (.nil _ _));rw [Co.zVH] at hfo;refine Calls.mono hfo ?_;clear hfo;rintro e w7 hfv;obtain⟨a7,rfl,_,hs7,hb7⟩:=hfv;obtain⟨pa,ca,rfl,_⟩:=hs7.form;have HB7:=zh hb7;have hk:Calls prog 17 #[.agg #[.int .i64 0,.int .i64 0,.int .i64 0,.string ⟨#[]⟩,.bool false,.slice pa 0 ca],.agg #[.int .i64 0,.int .i64 0,.int .i64 0,.string ⟨#[]⟩,.bool false,.slice none 0 0]] w7 fun r w8=>r= .returned (.bool (Sy.sameE (Co.exI 0) (Co.exI 0)))/\Below w7.heap.size w7 w8:=zHO 1 (Co.exI 0) (Co.exI 0) (.slice pa 0 ca) (.slice none 0 0) w7 (by decide) hs7 (.nil _ _)
   rw [(Sy.zFH _ _).2 rfl] at hk;have HK:=zh hk;unfold zK;simp only [Co.exI,Tr.E.kind,Tr.E.op,Tr.E.int,Tr.E.name,Tr.E.at_,Tr.E.args,kQ];clear hk hs7 hb7;go_wp2_with fail;refine HK.mono ?_;rintro e w8 ⟨rfl,hb8⟩;go_wp2;go_ret;exact⟨rfl,HB2.trans (((C17.gr.fresh.trans (HB7.mono C17.gr.fresh.size)).trans (hb8.mono (kG C17.gr.fresh.size HB7.size))).mono HB2.size)⟩
end Cw
end
section
namespace Cw
open Go.RowKit Go.Maps Pw
abbrev Mo (w:World) (os:List (World->Prop)) (W:World):Prop:=Mz 0 0 w [] (fun _=>True) [] [] os W
def RC (a:Value) (l:List Tr.C):World->Prop:=fun W=>SlC W a l
theorem rc_mn {a:Value} {l:List Tr.C}:Mn (RC a l):=fun _ _ hi h=>SlC.inc h hi
def RCc (a:Value) (l:List Co.Cc):World->Prop:=fun W=>SlCc W a l
theorem rcc_mn {a:Value} {l:List Co.Cc}:Mn (RCc a l):=fun _ _ hi h=>SlCc.inc h hi
def RI (a:Value) (l:List Co.Ins):World->Prop:=fun W=>SlI W a l
theorem ri_mn {a:Value} {l:List Co.Ins}:Mn (RI a l):=fun _ _ hi h=>SlI.inc h hi
section
variable {w W W':World} {os:List (World->Prop)}
theorem Mo.start (w:World):Mo w [] w:=Mz.start trivial (fun _ _ _=>trivial) (kO _) (kO _) (fun _ h=>by cases h) (fun _ h=>by cases h)
theorem Mo.add (h:Mo w os W) {r:World->Prop} (hm:Mn r) (hr:r W):Mo w (r::os) W:=Mz.get h hm (hm _ _ (zTU W) hr)
theorem Mo.fresh (h:Mo w os W):Below w.heap.size w W:=h.gr.fresh
end
end Cw
end
section
namespace Cw
open Go.RowKit Go.Maps Pw
abbrev A1 (b:Nat) (x0:Value) (U:World):Prop:=U.cell? ⟨b,0,none⟩=some (x0)
theorem mnA1 {b:Nat} {x0:Value}:Mn (A1 b x0):=fun _ _ hi h=>hi.2 _ _ _ h
theorem Mz.foldA1 {w W:World} {bs:List Bk} {os:List (World->Prop)} {X:Nat} {x0:Value} {t:TypeId} (h:Mz 0 0 w [] (fun _=>True) [] ((X,#[x0],t)::bs) os W):Mz 0 0 w [] (fun _=>True) [] bs (A1 X x0::os) W:=h.fold mnA1 (fun _ hU _=>zB hU (j:=0) rfl)
abbrev A2 (b:Nat) (x0 x1:Value) (U:World):Prop:=U.cell? ⟨b,0,none⟩=some (x0)/\U.cell? ⟨b,1,none⟩=some (x1)
abbrev A5 (b:Nat) (x0 x1 x2 x3 x4:Value) (U:World):Prop:=U.cell? ⟨b,0,none⟩=some (x0)/\U.cell? ⟨b,1,none⟩=some (x1)/\U.cell? ⟨b,2,none⟩=some (x2)/\U.cell? ⟨b,3,none⟩=some (x3)/\U.cell? ⟨b,4,none⟩=some (x4)
theorem mnA5 {b:Nat} {x0 x1 x2 x3 x4:Value}:Mn (A5 b x0 x1 x2 x3 x4):=fun _ _ hi h=>⟨hi.2 _ _ _ h.1,hi.2 _ _ _ h.2.1,hi.2 _ _ _ h.2.2.1,hi.2 _ _ _ h.2.2.2.1,hi.2 _ _ _ h.2.2.2.2⟩
theorem Mz.foldA5 {w W:World} {bs:List Bk} {os:List (World->Prop)} {X:Nat} {x0 x1 x2 x3 x4:Value} {t:TypeId} (h:Mz 0 0 w [] (fun _=>True) [] ((X,#[x0,x1,x2,x3,x4],t)::bs) os W):Mz 0 0 w [] (fun _=>True) [] bs (A5 X x0 x1 x2 x3 x4::os) W:=h.fold mnA5 (fun _ hU _=>⟨zB hU (j:=0) rfl,zB hU (j:=1) rfl,zB hU (j:=2) rfl,zB hU (j:=3) rfl,zB hU (j:=4) rfl⟩)
abbrev B3 (b o:Nat) (x0 x1 x2:Value) (U:World):Prop:=U.cell? ⟨b,o,none⟩=some (x0)/\U.cell? ⟨b,o+1,none⟩=some (x1)/\U.cell? ⟨b,o+2,none⟩=some (x2)
theorem mnB3 {b o:Nat} {x0 x1 x2:Value}:Mn (B3 b o x0 x1 x2):=fun _ _ hi h=>⟨hi.2 _ _ _ h.1,hi.2 _ _ _ h.2.1,hi.2 _ _ _ h.2.2⟩
abbrev B4 (b o:Nat) (x0 x1 x2 x3:Value) (U:World):Prop:=U.cell? ⟨b,o,none⟩=some (x0)/\U.cell? ⟨b,o+1,none⟩=some (x1)/\U.cell? ⟨b,o+2,none⟩=some (x2)/\U.cell? ⟨b,o+3,none⟩=some (x3)
theorem mnB4 {b o:Nat} {x0 x1 x2 x3:Value}:Mn (B4 b o x0 x1 x2 x3):=fun _ _ hi h=>⟨hi.2 _ _ _ h.1,hi.2 _ _ _ h.2.1,hi.2 _ _ _ h.2.2.1,hi.2 _ _ _ h.2.2.2⟩
abbrev B5 (b o:Nat) (x0 x1 x2 x3 x4:Value) (U:World):Prop:=U.cell? ⟨b,o,none⟩=some (x0)/\U.cell? ⟨b,o+1,none⟩=some (x1)/\U.cell? ⟨b,o+2,none⟩=some (x2)/\U.cell? ⟨b,o+3,none⟩=some (x3)/\U.cell? ⟨b,o+4,none⟩=some (x4)
theorem mnB5 {b o:Nat} {x0 x1 x2 x3 x4:Value}:Mn (B5 b o x0 x1 x2 x3 x4):=fun _ _ hi h=>⟨hi.2 _ _ _ h.1,hi.2 _ _ _ h.2.1,hi.2 _ _ _ h.2.2.1,hi.2 _ _ _ h.2.2.2.1,hi.2 _ _ _ h.2.2.2.2⟩
section
variable {w W:World} {os:List (World->Prop)}
theorem Mz.ot {r:World->Prop} (h:Mz 0 0 w [] (fun _=>True) [] [] (r::os) W):Mz 0 0 w [] (fun _=>True) [] [] os W:=h.few (fun _ hq=>kK _ hq)
theorem Mo.cc (h:Mo w os W) (i:Nat) {p:Option Addr} {N c:Nat} {l:List Co.Cc} (hi:os[i]? =some (RCc (.slice p N c) l)) {j:Nat} {x:Co.Cc} (hx:l[j]? =some x):
 ∃b o px nx cx py ny cy,p=some ⟨b,o,none⟩/\b<W.heap.size/\nx=x.fields.length/\ny=x.methods.length/\Hid (Mo w (B4 b (o+j*4) (.string x.name) (.bool x.actor) (.slice px nx cx) (.slice py ny cy)::RN (.slice px nx cx) x.fields::RMm (.slice py ny cy) x.methods::os) W):=by
 obtain⟨b,o,x1,y1,hp,hb,hc,_,h1,h2⟩:=SlCc.get (h.rd i hi) hx;have h1':=h1;have h2':=h2;obtain⟨px,cx,e1,_⟩:=h1';obtain⟨py,cy,rfl,_⟩:=h2'.form;subst e1;exact⟨b,o,px,_,cx,py,_,cy,hp,hb,rfl,rfl,zh (Mo.add (Mo.add (Mo.add h zUI h2) rn_mn h1) mnB4 hc)⟩
theorem Mo.cm (h:Mo w os W) (i:Nat) {p:Option Addr} {N c:Nat} {l:List Co.Cm} (hi:os[i]? =some (RMm (.slice p N c) l)) {j:Nat} {x:Co.Cm} (hx:l[j]? =some x):
 ∃b o px nx cx py ny cy,p=some ⟨b,o,none⟩/\b<W.heap.size/\nx=x.code.length/\ny=x.names.length/\nx<=maxLen/\ny<=maxLen/\Hid (Mo w (B5 b (o+j*5) (.string x.name) (.int .i64 x.params) (.int .i64 x.locals) (.slice px nx cx) (.slice py ny cy)::RI (.slice px nx cx) x.code::RN (.slice py ny cy) x.names::os) W):=by
 obtain⟨b,o,x1,y1,hp,hb,hc,_,h1,h2⟩:=SlMm.get (h.rd i hi) hx;have h1':=h1;have h2':=h2;obtain⟨px,cx,rfl,_⟩:=h1'.form;obtain⟨py,cy,e2,hl2,_⟩:=h2';subst e2;exact⟨b,o,px,_,cx,py,_,cy,hp,hb,rfl,rfl,h1.len,hl2,zh (Mo.add (Mo.add (Mo.add h rn_mn h2) ri_mn h1) mnB5 hc)⟩
end
abbrev A0 (b o:Nat) (x:Value) (U:World):Prop:=U.cell? ⟨b,o,none⟩=some x
theorem mnA0 {b o:Nat} {x:Value}:Mn (A0 b o x):=fun _ _ hi h=>hi.2 _ _ _ h
theorem Mz.setRowE {B0 V:Nat} {w W:World} {o0 ow:List Nat} {Q:World->Prop} {bs:List Bk} {os:List (World->Prop)} (h:Mz B0 V w o0 Q ow bs os W) (i:Nat) {X:Nat} {cs:Array Value} {t:TypeId} (hi:bs[i]? =some (X,cs,t)) (cs':Array Value):
 ∃W',Hid (W'=W.setRow X cs')/\Hid (Mz B0 V w o0 Q ow (bs.set i (X,cs',t)) os W'):=
 ⟨_,zh rfl,zh (h.set i hi ⟨rfl,rfl,rfl,Nat.le_of_eq (setRow_size ..).symm,fun b _ hn=>setRow_other _ _ _ _ (fun e=>hn (by rw [e]))⟩ (setRow_heap _ _ _ _ _ _ (h.b i hi)))⟩
end Cw
end
section
namespace Cw
open Go.RowKit Go.Maps Pw
section
variable {B0 V:Nat} {w W:World} {o0 ow:List Nat} {Q:World->Prop} {bs:List Bk} {os:List (World->Prop)} {R:Nat} {cs:Array Value} {t:TypeId} {fn:Func} {q:Tmp} {A:Act} {Post:Ending->World->Prop}
theorem Mz.retA (h:Mz B0 V w o0 Q ow bs os W) (i:Nat) (hi:bs[i]? =some (R,cs,t)) (hr:fn.results= #[.cell q t]) (hq:A.tmps.getD q undef= .pointer (some ⟨R,0,none⟩)) (hd:A.defers= []) (hu:∃fs,prog.underlying t=some (.struct fs)) (hz:(prog.info? t).map (·.size)=some cs.size) (hp:Post (.returned (.agg cs)) W):
 bodyPost prog fn Post .ret A W:=by
 obtain⟨fs,hu⟩:=hu;exact bodyPost_ret (v:= .agg cs) (results_cell_row hr _ _ R _ _ _ _ hq (h.b i hi) hu rfl hz) hd hp
theorem Mz.retA1 {u:Tmp} {eu:Value} (h:Mz B0 V w o0 Q ow bs os W) (i:Nat) (hi:bs[i]? =some (R,cs,t)) (hr:fn.results= #[.cell q t,.tmp u]) (hq:A.tmps.getD q undef= .pointer (some ⟨R,0,none⟩)) (he:A.tmps.getD u undef=eu) (hd:A.defers= []) (hu:∃fs,prog.underlying t=some (.struct fs)) (hz:(prog.info? t).map (·.size)=some cs.size) (hp:Post (.returned (.tuple #[.agg cs,eu])) W):
 bodyPost prog fn Post .ret A W:=by
 subst he;obtain⟨fs,hu⟩:=hu;exact bodyPost_ret (v:= .tuple #[.agg cs,A.tmps.getD u undef]) (zA1 hr _ _ R _ _ _ _ hq (h.b i hi) hu rfl hz) hd hp
end
end Cw
end
section
namespace Cw
open Go.RowKit Go.Maps Pw
def SlV (w:World) (v:Value) (l:List (BA × Nat)):Prop:=
 ∃p c,v= .slice p l.length c/\l.length<=maxLen/\(l≠ []->l.length<=c/\c<=maxLen)/\∀j x,l[j]? =some x->∃b o,p=some ⟨b,o,none⟩/\b<w.heap.size/\w.cell? ⟨b,o+j*2,none⟩=some (.string x.1)/\w.cell? ⟨b,o+j*2+1,none⟩=some (.int .i64 x.2)
section
variable {w w':World} {v:Value}
theorem SlV.inc {l:List (BA × Nat)} (h:SlV w v l) (hb:Inc w w'):SlV w' v l:=by
 obtain⟨p,c,e,hl,hn,hx⟩:=h;refine⟨p,c,e,hl,hn,fun j s hj=>?_⟩;obtain⟨b,o,e2,h1,h2,h3⟩:=hx j s hj;exact⟨b,o,e2,kP h1 hb.1,hb.2 _ _ _ h2,hb.2 _ _ _ h3⟩
theorem SlV.one {l:List (BA × Nat)} (h:SlV w v l):v.oneCell'=true:=by obtain⟨p,c,rfl,_⟩:=h;rfl
theorem SlV.form {l:List (BA × Nat)} (h:SlV w v l):∃p c,v= .slice p l.length c:=by obtain⟨p,c,e,_⟩:=h;exact⟨p,c,e⟩
theorem SlV.get {p:Option Addr} {n c:Nat} {l:List (BA × Nat)} (h:SlV w (.slice p n c) l) {j:Nat} {x:BA × Nat} (hj:l[j]? =some x):
 ∃b o,p=some ⟨b,o,none⟩/\b<w.heap.size/\w.cell? ⟨b,o+j*2,none⟩=some (.string x.1)/\w.cell? ⟨b,o+j*2+1,none⟩=some (.int .i64 x.2):=by
 obtain⟨p',c',e,_,_,hx⟩:=h;cases e;exact hx j x hj
theorem zU0 (w:World) (p:Option Addr) (c:Nat):SlV w (.slice p 0 c) []:=⟨p,c,rfl,kO _,fun h=>absurd rfl h,fun j n hj=>by simp at hj⟩
theorem zJ1 {base:Nat} {l:List (BA × Nat)} (h:w.ownsRow base 118 2 v l.length (flatV zBF l)):SlV w v l:=by
 rcases own_cells zAS h with ⟨rfl,rfl⟩|⟨g,cap,rfl,hg,hn,hm,hc⟩
 ·exact zU0 _ _ _
 ·refine⟨some ⟨g,0,none⟩,cap,rfl,by omega,fun _=>⟨hn,hm⟩,fun j m hj=>?_⟩;have c:=hc j m hj;exact⟨g,0,rfl,hg,by rw [Nat.zero_add];exact⟨c 0 _ rfl,c 1 _ rfl⟩⟩
theorem zQF {α:Type} {f:α->List Value} {k:Nat} (hk:0<k) (hf:∀a,(f a).length=k) {p:Option Addr} {c:Nat} {l:List α} (hx:∀j x,l[j]? =some x->∃b o,p=some ⟨b,o,none⟩/\∀i u,(f x)[i]? =some u->w.cell? ⟨b,o+j*k+i,none⟩=some u):SrcAt w f (.slice p l.length c) l:=by
 cases l with
 |nil=>exact .inl ⟨rfl,p,c,rfl⟩
 |cons y r=>
  obtain⟨b,o,rfl,_⟩:=hx 0 y rfl;refine .inr ⟨b,o,c,rfl,fun j u hj=>?_⟩;have hj1:=(kJ.1 hj).1;rw [flatV_len f k hf] at hj1;have hq:j / k<(y::r).length:=(Nat.div_lt_iff_lt_mul hk).2 hj1;have hr:=Nat.mod_lt j hk;have e:j / k*k+j % k=j:=by rw [Nat.mul_comm];exact Nat.div_add_mod j k
  have hm:(y::r)[j / k]? =some (y::r)[j / k]:=kB hq;obtain⟨b2,o2,e2,h2⟩:=hx _ _ hm;injection e2 with e2
  injection e2 with e3 e4
  subst e3 e4;have h3:=flatV_get f k hf (y::r) (j / k) _ (j % k) hr hm;rw [e,hj] at h3;have h4:=h2 (j % k) u h3.symm
  rwa [Nat.add_assoc,e] at h4
theorem SlI.src {l:List Co.Ins} (h:SlI w v l):SrcAt w iCells v l:=by
 obtain⟨p,c,rfl,_,_,hx⟩:=h;refine zQF (k:=3) (by omega) zBW (fun j x hj=>?_);obtain⟨b,o,e,_,h0,h1,h2⟩:=hx j x hj;refine⟨b,o,e,fun i u hu=>?_⟩
 match i,hu with
 |0,hu=>cases hu;exact h0
 |1,hu=>cases hu;exact h1
 |2,hu=>cases hu;exact h2
 |i+3,hu=>simp [iCells] at hu
theorem SlV.src {l:List (BA × Nat)} (h:SlV w v l):SrcAt w zBF v l:=by
 obtain⟨p,c,rfl,_,_,hx⟩:=h;refine zQF (k:=2) (by omega) zAS (fun j x hj=>?_);obtain⟨b,o,e,_,h0,h1⟩:=hx j x hj;refine⟨b,o,e,fun i u hu=>?_⟩
 match i,hu with
 |0,hu=>cases hu;exact h0
 |1,hu=>cases hu;exact h1
 |i+2,hu=>simp [zBF] at hu
theorem zQJ {l:List BA} (h:SlStr w v l):SrcAt w nCells v l:=by
 obtain⟨p,c,rfl,_,_,hx⟩:=h;refine zQF (k:=1) (by omega) zBV (fun j x hj=>?_);obtain⟨_,b,o,e,_,h0⟩:=hx j x hj;refine⟨b,o,e,fun i u hu=>?_⟩
 match i,hu with
 |0,hu=>cases hu;rw [Nat.mul_one];exact h0
 |i+1,hu=>simp [nCells] at hu
theorem zQK {l:List BA} (h:SlStr w v l):v.oneCell'=true:=by obtain⟨p,c,rfl,_⟩:=h;rfl
end
structure GR (W:World) (x y z:Value) (g:Co.G):Prop where
 code:SlI W x g.code
 names:SlStr W y g.names
 vars:SlV W z g.vars
theorem GR.inc {W W':World} {x y z:Value} {g:Co.G} (h:GR W x y z g) (hi:Inc W W'):GR W' x y z g:=⟨h.code.inc hi,SlStr.inc h.names hi,h.vars.inc hi⟩
def gC (a:Value) (cl:Tr.C) (b c x y z:Value) (g:Co.G):Array Value:= #[a,.string cl.name,.bool cl.actor,b,c,x,y,z,.int .i64 g.locals,.int .i64 g.depth,.int .i64 g.most,.bool g.large]
abbrev zro:Array Value:= #[.slice none 0 0,.string ⟨#[]⟩,.bool false,.slice none 0 0,.slice none 0 0,.slice none 0 0,.slice none 0 0,.slice none 0 0,.int .i64 0,.int .i64 0,.int .i64 0,.bool false]
def GP (a b c:Value) (cl:Tr.C) (l:List Nat) (g:Co.G) (w:World) (e:Ending) (w':World):Prop:=∃x y z,e= .returned (.agg (gC a cl b c x y z g))/\Below w.heap.size w w'/\GR (hide (upL 0 l) w') x y z g
theorem zFV {W:World} {a b c x y z:Value} {cl:Tr.C} {g:Co.G} (h:a.oneCell'=true/\b.oneCell'=true/\c.oneCell'=true) (hr:GR W x y z g):(gC a cl b c x y z g).all (·.oneCell')=true:=by
 unfold gC;rw [<-Array.all_toList];simp only [List.all_cons,List.all_nil,h.1,h.2.1,h.2.2,hr.code.one,zQK hr.names,hr.vars.one]
 rfl
theorem zA8 {W W':World} {l:List Nat} (hb:Below W.heap.size W W'):Inc (hide (upL 0 l) W) (hide (upL 0 l) W'):=zBQ (zCH hb none) (fun _ e=>by cases e) (fun _ _ h=>h)
theorem zJ8 {α:Type} {f:α->List Value} {k:Nat} {t:TypeId} {B:Nat} {l:List Nat} {W:World} {v:Value} {tr:List α} (h:W.ownsRow B t k v tr.length (flatV f tr)) (hl:∀q∈l,q<B):(hide (upL 0 l) W).ownsRow B t k v tr.length (flatV f tr):=
 zCB h (fun q hq=>zCE (kO _) (fun hm=>by have:=hl q hm;have:=(own_ge h hq).1;omega))
def okA {α:Type} (_:World) (_:α):Prop:=True
theorem zAT {α:Type}:Mono (okA (α:=α)):=fun _ _ _ _ _=>trivial
theorem My.rowA {α:Type} {f:α->List Value} {k:Nat} {t:TypeId} {w W:World} {G:Nat} {bs:List Bk} (h:My w ((G,#[],t)::bs) [] W):RowOk f k t okA w.heap.size (bs.map Prod.fst) W (.slice (some ⟨G,0,none⟩) 0 0) []/\My w bs [] W:=
 ⟨⟨⟨by simp [flatV],.inr ⟨G,0,#[],rfl,(h.lt 0 rfl).1,h.b 0 rfl,kL _,by unfold maxLen;omega,by simp,by simp [flatV]⟩⟩,(fun x hx=>by cases hx),(fun q hq e=>by injection e with e;subst e;exact(List.nodup_cons.1 h.nd).1 hq)⟩,h.tl⟩
theorem My.rowR {α:Type} {f:α->List Value} {k:Nat} {t:TypeId} {w W:World} {bs:List Bk} {v:Value} {tr:List α} {ids:List Nat} (h:My w bs [] W) (hr:RowOk f k t okA w.heap.size ids W v tr) {r:World->Prop} (hm:Mn r) (hs:∀U:World,U.ownsRow w.heap.size t k v tr.length (flatV f tr)->r U) (hsub:∀q∈bs.map Prod.fst,q∈ids:=by intro q hq;first|exact hq|exact kK _ hq):My w bs [r] W:=
 Mz.get h hm (hs _ (zCB hr.own (fun q hq=>by
  have h1:=(hr.ge hq).1;refine kE (fun hm=>?_);rcases hm with hm|hm
  ·omega
  ·exact hr.nin q (hsub q hm) hq)))
theorem My.past {w W:World} {bs:List Bk} {os:List (World->Prop)} (h:My w bs os W) (i:Nat) {r:World->Prop} (hi:os[i]? =some r) {l:List Nat} (hl:∀q∈l,q<w.heap.size):r (hide (upL 0 l) W):=
 (h.ro _ (kM hi)).1 _ _ (zM4 (kO _) hl) (My.seen h i hi)
theorem RowOk.modA {B:Nat} {l:List Nat} {W:World} {p:Option Addr} {n c:Nat} {tr:List Co.Ins} (h:RowOk iCells 3 65 okA B l W (.slice p n c) tr) {i:Nat} (hi:i<tr.length) (L:Int):
 ∃q,p=some ⟨q,0,none⟩/\B<=q/\q∉l/\q<W.heap.size/\(∃u,W.cell? ⟨q,i*3+1,none⟩=some u)/\W.frozen? ⟨q,i*3+1,none⟩=false/\RowOk iCells 3 65 okA B l (W.setCell ⟨q,i*3+1,none⟩ (.int .i64 L)) (.slice (some ⟨q,0,none⟩) n c) (tr.modify i fun x=>(x.1,L,x.2.2)):=by
 rcases h.own.2 with ⟨e,h0⟩|⟨b,cap,cur,e,hb,hblk,hn,hm,hcs,ht⟩
 ·omega
 ·injection e with e1 e2 e3
  subst e1 e3;have hsz:i*3+1<cur.size:=by rw [hcs];omega
  have hl:(tr.modify i fun x=>(x.1,L,x.2.2)).length=tr.length:=List.length_modify ..;refine⟨b,rfl,hb,fun hm=>h.nin b hm rfl,lt_of_block hblk,⟨cur[i*3+1],zB hblk (Array.getElem?_eq_getElem hsz)⟩,zP hblk _,⟨⟨by rw [hl,<-h.own.1,<-zFW _ _ _ hi,List.length_set],.inr ⟨b,c,cur.setIfInBounds (i*3+1) (.int .i64 L),by rw [hl,e2],hb,Pw.heap_set (j:=i*3+1) _ hblk,by rw [hl];exact hn,hm,by rw [Array.size_setIfInBounds];exact hcs,?_⟩⟩,fun _ _=>trivial,h.nin⟩⟩;rw [<-zFW _ _ _ hi,<-ht,hl,Array.toList_setIfInBounds,List.take_set]
theorem cs12 {W:World} {b:Nat} {t:TypeId} {v0 v1 v2 v3 v4 v5 v6 v7 v8 v9 v10 v11:Value} (h:W.heap[b]? =some (.cells #[v0,v1,v2,v3,v4,v5,v6,v7,v8,v9,v10,v11] t (0,0))):W.cell? ⟨b,0,none⟩=some (v0)/\W.cell? ⟨b,1,none⟩=some (v1)/\W.cell? ⟨b,2,none⟩=some (v2)/\W.cell? ⟨b,3,none⟩=some (v3)/\W.cell? ⟨b,4,none⟩=some (v4)/\W.cell? ⟨b,5,none⟩=some (v5)/\W.cell? ⟨b,6,none⟩=some (v6)/\W.cell? ⟨b,7,none⟩=some (v7)/\W.cell? ⟨b,8,none⟩=some (v8)/\W.cell? ⟨b,9,none⟩=some (v9)/\W.cell? ⟨b,10,none⟩=some (v10)/\W.cell? ⟨b,11,none⟩=some (v11):=⟨zB h (j:=0) rfl,zB h (j:=1) rfl,zB h (j:=2) rfl,zB h (j:=3) rfl,zB h (j:=4) rfl,zB h (j:=5) rfl,zB h (j:=6) rfl,zB h (j:=7) rfl,zB h (j:=8) rfl,zB h (j:=9) rfl,zB h (j:=10) rfl,zB h (j:=11) rfl⟩
theorem gInfo:(prog.info? 116).map (·.size)=some 12:=by kernel_rfl
theorem insInfo:(prog.info? 65).map (fun i=>(i.zero,i.size,i.bytes))=some (some (.agg #[.int .i64 0,.int .i64 0,.int .i64 0]),3,24):=by kernel_rfl
end Cw
end
section
namespace Cw
open Go.RowKit Go.Maps Pw
theorem zFT {a b c:Value} {cl:Tr.C} (hF:a.oneCell'=true/\b.oneCell'=true/\c.oneCell'=true) {x y z:Value} {g:Co.G} {w:World} {l:List Nat} (hl:∀q∈l,q<w.heap.size) (hr:GR (hide (upL 0 l) w) x y z g) {m:Nat} (hbd:Co.Bd m g/\m<=900000) (o aa bb pp qq:Int) (hP:0<=pp/\pp<=1000000) (hQ:0<=qq/\qq<=1000000):
 Calls prog 61 #[.agg (gC a cl b c x y z g),.int .i64 o,.int .i64 aa,.int .i64 bb,.int .i64 pp,.int .i64 qq] w (GP a b c cl l (Co.emit g o aa bb pp qq) w):=by
 have HF:=zh hF;have HL:=zh hl;have HR:=zh hr;have HBD:=zh hbd;have HP:=zh hP;have HQ:=zh hQ;have C0:=zh (My.start w);clear hF hl hr hbd hP hQ;unfold gC;obtain⟨i0,hi0,hz0,hz1,hz2⟩:=info_parts insInfo;obtain⟨G,w1,HX1,HW1,hx1,C1⟩:=C0.boxE #[a,.string cl.name,.bool cl.actor,b,c,x,y,z,.int .i64 g.locals,.int .i64 g.depth,.int .i64 g.most,.bool g.large] 116;obtain⟨R,w2,HX2,HW2,hx2,C2⟩:=C1.boxE #[.slice none 0 0,.string ⟨#[]⟩,.bool false,.slice none 0 0,.slice none 0 0,.slice none 0 0,.slice none 0 0,.slice none 0 0,.int .i64 0,.int .i64 0,.int .i64 0,.bool false] 116;have HY2:Hid (R=G+1):=zh (by rw [HX2.out,HW1.out,HX1.out];simp);go_in;go_upto_region 1 with fail;rw [<-HX1.out,<-HW1.out,<-HY2.out,<-HW2.out];clear HX1 HW1 C0 HY2 HX2 HW2 C1;obtain⟨hrow,hcs⟩:=My.rowA (f:=iCells) (k:=3) (C2.box (X:=w2.heap.size) rfl #[] 65);have HROW:=zh hrow;have CS:=zh hcs;clear hrow hcs;have HSRC:=zh (((HR.code.inc zBL).keep CS.gr.fresh).src);have HNB:Hid (g.code.length<=900000):=zh (kG HBD.1.code HBD.2);have q1:=zAC (C2.b 1 rfl);go_upto_region 2 with (first|(at_builtin;refine zBK zBW zAT rfl _ _ 57 rfl i0 (.agg #[.int .i64 0,.int .i64 0,.int .i64 0]) 24 underlying57 hi0 hz0 hz1 hz2 rfl (by decide) _ _ rfl rfl HROW HSRC (fun _ _=>trivial) (fun x _=>zDC x) (by have h8:=HNB.out;unfold maxLen;simp only [kQ];omega) (by have h8:=HNB.out;simp only [kQ];omega) CS.le ?_ (fun q hq=>(CS.lts hq).2.1);intro v7 w7 hr7 hg7;obtain⟨p7,c7,rfl⟩:=own_form hr7.own;rw [List.nil_append] at hr7 |-;have C7:=zh (My.push CS hg7 (fun q hq=>⟨(HROW.ge hq).1,fun hm=>HROW.nin q hm hq⟩));have HR7:=zh hr7;clear hr7 hg7 CS HROW HSRC;have HR8:=zh (HR7.box zAT rfl (.cells #[.int .i64 o,.int .i64 aa,.int .i64 bb] 65));have C8:=zh (C7.box (X:=w7.heap.size) rfl #[.int .i64 o,.int .i64 aa,.int .i64 bb] 65);have HS8:=zh (SrcAt.of_blk (f:=iCells) (x:=(o,aa,bb)) (c:=1) (C8.b 0 rfl) rfl))|(at_builtin;refine zBK zBW zAT rfl _ _ 57 rfl i0 (.agg #[.int .i64 0,.int .i64 0,.int .i64 0]) 24 underlying57 hi0 hz0 hz1 hz2 rfl (by decide) _ _ rfl rfl HR8 HS8 (fun _ _=>trivial) (fun x _=>zDC x) (by have h8:=HNB.out;unfold maxLen;simp only [kI,kQ];omega) (by have h8:=HNB.out;simp only [kI,kQ];omega) C8.le ?_ (fun q hq=>(C8.lts hq).2.1);intro v9 w9 hr9 hg9;obtain⟨p9,c9,rfl⟩:=own_form hr9.own;have C9:=zh (My.push C8 hg9 (fun q hq=>⟨(HR8.ge hq).1,fun hm=>HR8.nin q hm hq⟩)).tl;have HR9:=zh hr9;clear hr9 hg9 C7 C8 HR7 HR8 HS8;have q1:=zAC (C9.b 1 rfl)));clear q1;have hl9:(g.code++ [(o,aa,bb)]).length=g.code.length+1:=by simp
 have hr9:=HR9.out;rw [hl9] at hr9;have C10:=zh (My.rowR C9 hr9 (r:=fun W=>SlI W (.slice p9 (g.code.length+1) c9) (g.code++ [(o,aa,bb)])) (fun _ _ hi h=>SlI.inc h hi) (fun _ h=>zMQ h));clear hr9 HR9 hl9 C9;have q1:=zAC (C10.b 1 rfl);obtain⟨w3,HW⟩:∃q,Hid (q=(w9.setCell ⟨G,5,none⟩ (.slice p9 (g.code.length+1) c9))):=⟨_,zh rfl⟩;have C3:=zh ((C10.set (W':=w3) 1 rfl (by rw [HW.out];exact zW w9 G 5 (.slice p9 (g.code.length+1) c9)) (by rw [HW.out];exact(heap_set (j:=5) (.slice p9 (g.code.length+1) c9) (C10.b 1 rfl)))).nrm (bs':= [(R,#[.slice none 0 0,.string ⟨#[]⟩,.bool false,.slice none 0 0,.slice none 0 0,.slice none 0 0,.slice none 0 0,.slice none 0 0,.int .i64 0,.int .i64 0,.int .i64 0,.bool false],116),(G,#[a,.string cl.name,.bool cl.actor,b,c,.slice p9 (g.code.length+1) c9,y,z,.int .i64 g.locals,.int .i64 g.depth,.int .i64 g.most,.bool g.large],116)]) rfl);rw [<-HW.out];clear HW C10 q1;have hdb:=HBD.1.dep;have hmb:=HBD.1.most;have hm9:=HBD.2;have hp1:=HP.out;have hq1:=HQ.out;have q1:=zAC (C3.b 1 rfl);obtain⟨w4,HW⟩:∃q,Hid (q=(w3.setCell ⟨G,9,none⟩ (.int .i64 (g.depth -pp+qq)))):=⟨_,zh rfl⟩;have C4:=zh ((C3.set (W':=w4) 1 rfl (by rw [HW.out];exact zW w3 G 9 (.int .i64 (g.depth -pp+qq))) (by rw [HW.out];exact(heap_set (j:=9) (.int .i64 (g.depth -pp+qq)) (C3.b 1 rfl)))).nrm (bs':= [(R,#[.slice none 0 0,.string ⟨#[]⟩,.bool false,.slice none 0 0,.slice none 0 0,.slice none 0 0,.slice none 0 0,.slice none 0 0,.int .i64 0,.int .i64 0,.int .i64 0,.bool false],116),(G,#[a,.string cl.name,.bool cl.actor,b,c,.slice p9 (g.code.length+1) c9,y,z,.int .i64 g.locals,.int .i64 (g.depth -pp+qq),.int .i64 g.most,.bool g.large],116)]) rfl);go_upto_region 3 with fail;rw [<-HW.out];clear HW C3 q1;have q1:=zAC (C4.b 1 rfl);obtain⟨w5,HW⟩:∃q,Hid (q=(w4.setCell ⟨G,10,none⟩ (.int .i64 (max g.most (g.depth -pp+qq))))):=⟨_,zh rfl⟩;have C5:=zh ((C4.set (W':=w5) 1 rfl (by rw [HW.out];exact zW w4 G 10 (.int .i64 (max g.most (g.depth -pp+qq)))) (by rw [HW.out];exact(heap_set (j:=10) (.int .i64 (max g.most (g.depth -pp+qq))) (C4.b 1 rfl)))).nrm (bs':= [(R,#[.slice none 0 0,.string ⟨#[]⟩,.bool false,.slice none 0 0,.slice none 0 0,.slice none 0 0,.slice none 0 0,.slice none 0 0,.int .i64 0,.int .i64 0,.int .i64 0,.bool false],116),(G,#[a,.string cl.name,.bool cl.actor,b,c,.slice p9 (g.code.length+1) c9,y,z,.int .i64 g.locals,.int .i64 (g.depth -pp+qq),.int .i64 (max g.most (g.depth -pp+qq)),.bool g.large],116)]) rfl);go_upto_region 4 with fail;rw [<-HW.out];clear HW C4 q1;clear hdb hmb hm9 hp1 hq1;have hrr:GR (hide (upL 0 l) w5) (.slice p9 (g.code.length+1) c9) y z (Co.emit g o aa bb pp qq):=⟨My.past C5 0 rfl HL,SlStr.inc HR.names (zA8 C5.gr.fresh),SlV.inc HR.vars (zA8 C5.gr.fresh)⟩;obtain⟨w6,HW,C6⟩:=C5.setRowE 0 rfl (gC a cl b c (.slice p9 (g.code.length+1) c9) y z (Co.emit g o aa bb pp qq));go_wp2_with (first|(refine wpList_load_row rfl _ _ rfl G rfl _ _ _ _ (C5.b 1 rfl) underlying116 rfl (by kernel_rfl) ?_)|(refine wpList_store_row rfl _ _ _ rfl R (gC a cl b c (.slice p9 (g.code.length+1) c9) y z (Co.emit g o aa bb pp qq)) rfl rfl _ _ (C5.b 0 rfl) (by kernel_rfl) rfl (zFV HF hrr) ?_));rw [<-HW.out];exact Mz.retA C6 0 rfl results61 rfl rfl ⟨_,underlying116⟩ (by kernel_rfl) ⟨_,y,z,rfl,C6.gr.fresh,⟨My.past C6 0 rfl HL,SlStr.inc HR.names (zA8 C6.gr.fresh),SlV.inc HR.vars (zA8 C6.gr.fresh)⟩⟩
end Cw
end
end Go.Proofs.YtcnmfcgmnkncaaaGreatDoor
