/-
  Several texts in one: CoAwake, CoLawBase.
-/
import Derived.Test.YtcnmfcgmnkncaaaGreatDoorJ25
namespace Go.Proofs.YtcnmfcgmnkncaaaGreatDoor
namespace Cw
open Go.RowKit Go.Maps Pw
theorem Mz.retP1 {B0 V:Nat} {w W:World} {o0 ow:List Nat} {Q:World→Prop} {bs:List Bk} {os:List (World→Prop)} {R:Nat} {x0 y0:Value} (h:Mz B0 V w o0 Q ow bs os W) (i:Nat) (hi:bs[i]? =some (R,#[y0],24)) {fn:Func} {q:Tmp} {A:Act} (hr:fn.results= #[.cell q 24]) (hq:A.tmps.getD q undef= .pointer (some ⟨R,0,none⟩)) (hd:A.defers= []) {Post:Ending→World→Prop}
 (hp:∀W',Mz B0 V w o0 Q ow (bs.set i (R,#[x0],24)) os W'→Post (.returned (.agg #[x0])) W'):
 bodyPost Tryz.prog fn Post .ret A (W.setCell ⟨R,0,none⟩ x0):=by
 have h2:=h.set i hi (zH W R 0 x0) (heap_set (j:=0) x0 (h.b i hi))
 have hil:i<bs.length:=(List.getElem?_eq_some_iff.1 hi).1
 have hS:=h2.b i (X:=R) (cs:= #[x0]) (by rw [List.getElem?_set,if_pos rfl,if_pos hil];rfl)
 exact bodyPost_ret (v:= .agg #[x0]) (results_cell_row hr _ _ R _ _ _ _ hq hS Tryz.underlying24 rfl (by kernel_rfl)) hd (hp _ h2)
end Cw
namespace Co
open Tr
def exA:E:= .mk 3 0 0 ⟨#[97]⟩ false []
def exI (n:Int):E:= .mk 0 0 n ⟨#[]⟩ false []
def exSub:E:= .mk 10 1 0 ⟨#[]⟩ false [exI 2,exI 1]
def exLess:E:= .mk 10 7 0 ⟨#[]⟩ false [exA,exSub]
def exBoth:E:= .mk 10 11 0 ⟨#[]⟩ false [exA,exI 3]
def exS1:S:= .mk 6 ⟨#[]⟩ [exBoth] [] []
def exS0:S:= .mk 3 ⟨#[]⟩ [exLess] [exS1] []
def exM:M:=⟨⟨#[103,111]⟩,[⟨#[97]⟩],[exS0]⟩
def exC:C:=⟨⟨#[65]⟩,true,[],[exM]⟩
def exCs:List C:= [exC]
def exCode:List Ins:= [(3,0,0),(0,1,0),(16,7,0),(19,11,0),(3,0,0),(19,9,0),(0,3,0),(17,0,0),(18,10,0),(0,0,0),(22,0,0),(25,0,0)]
def exCc:Cc:=⟨⟨#[65]⟩,true,[],[⟨⟨#[103,111]⟩,1,1,exCode,[]⟩]⟩
set_option maxRecDepth 100000 in
theorem zQR:Tr.fewP exCs 150=true:=by decide+kernel
set_option maxRecDepth 100000 in
theorem zSG:Ck.check exCs= []:=by decide+kernel
set_option maxRecDepth 100000 in
theorem zQS:ccsOf exCs exCs=some [exCc]:=by kernel_rfl
def exN:E:= .mk 9 0 0 ⟨#[]⟩ false [exI 5]
theorem zT9:foldV exN=exI 0:=by kernel_rfl
theorem SmC.mono {N N':Nat} {c:C} (h:SmC N c) (hn:N≤N'):SmC N' c:=⟨Nat.le_trans h.ms hn,Nat.le_trans h.fs hn,h.nm,h.sz,fun m hm=>⟨by have:=(h.all m hm).w;omega,Nat.le_trans (h.all m hm).ps hn,(h.all m hm).sz,(h.all m hm).nm⟩⟩
theorem zS6 {l:List C} {n:Nat} (h:fewP l n=true) (hn:n≤1000):l.length≤1000∧∀c∈l,SmC 1000 c:=⟨Nat.le_trans (zJ7 h).1 hn,fun c hc=>((zJ7 h).2 c hc).mono hn⟩
end Co
namespace Cw
open Go.RowKit Go.Maps Pw
instance decI64' (n:Int):Decidable (Tr.I64 n):=by unfold Tr.I64;infer_instance
theorem zM5 (n:Int) (h:Tr.I64 n):BdE (Co.exI n):=bdE_mk (zAT (n:=0) (by decide) (by decide)) (zAT (n:=0) (by decide) (by decide)) h zD6
theorem zSO:BdE Co.exSub:=⟨by decide,by decide,by decide,by decide⟩
theorem zS9:BdE Co.exA:=⟨by decide,by decide,by decide,by decide⟩
theorem zTN {W:World} {g:Nat} {cs:Array Value} {t:TypeId} {l:List Co.Ins} (h:W.heap[g]? =some (.cells cs t (0,0))) (hc:cs.toList=flatV iCells l) (hl:l.length≤1000):SlI W (.slice (some ⟨g,0,none⟩) l.length l.length) l:=by
 refine⟨_,_,rfl,by unfold maxLen;omega,fun _=>⟨Nat.le_refl _,by unfold maxLen;omega⟩,fun j x hj=>⟨g,0,rfl,lt_of_block h,?_⟩⟩
 have hat:∀q u,(iCells x)[q]? =some u→q<3→W.cell? ⟨g,j*3+q,none⟩=some u:=fun q u hu hq=>zB h (by rw [←Array.getElem?_toList,hc,zB8 iCells 3 zDC l j x q hq hj,hu])
 rw [Nat.zero_add]
 exact⟨hat 0 _ rfl (by omega),hat 1 _ rfl (by omega),hat 2 _ rfl (by omega)⟩
def ExPost (w:World) (e:Ending) (w':World):Prop:=∃v,e= .returned (.agg #[v])∧SlC w' v Co.exCs∧Below w.heap.size w w'
set_option maxRecDepth 100000 in
set_option maxHeartbeats 16000000 in
theorem zIQ (w:World):Calls Tryz.prog 30 #[] w (ExPost w):=by
 have C0:=zh (My.start w)
 go_enter Tryz.func30,Tryz.ntmps30
 obtain⟨R,w1,HX1,HW1,hx1,C1⟩:=C0.out.boxE #[.slice none 0 0] 24
 go_upto_region 1 with fail
 rw [←HX1.out,←HW1.out]
 clear HX1 HW1 C0
 obtain⟨A,w2,HX2,HW2,hx2,C2⟩:=C1.out.boxE #[.int .i64 3,.int .i64 0,.int .i64 0,.string ⟨#[97]⟩,.bool false,.slice none 0 0] 37
 go_upto_region 2 with fail
 rw [←HX2.out,←HW2.out]
 clear HX2 HW2 C1
 have q0:=cells6 (C2.out.b 0 rfl)
 obtain⟨L2,w3,HX3,HW3,hx3,C3⟩:=C2.out.boxE #[.int .i64 0,.int .i64 0,.int .i64 2,.string ⟨#[]⟩,.bool false,.slice none 0 0,.int .i64 0,.int .i64 0,.int .i64 1,.string ⟨#[]⟩,.bool false,.slice none 0 0] 37
 obtain⟨L1,w4,HX4,HW4,hx4,C4⟩:=C3.out.boxE #[.int .i64 3,.int .i64 0,.int .i64 0,.string ⟨#[97]⟩,.bool false,.slice none 0 0,.int .i64 10,.int .i64 1,.int .i64 0,.string ⟨#[]⟩,.bool false,.slice (some ⟨L2,0,none⟩) 2 2] 37
 have HY4:Hid (L1=L2+1):=zh (by rw [HX4.out,HW3.out,HX3.out];simp)
 obtain⟨LE,w5,HX5,HW5,hx5,C5⟩:=C4.out.boxE #[.int .i64 10,.int .i64 7,.int .i64 0,.string ⟨#[]⟩,.bool false,.slice (some ⟨L1,0,none⟩) 2 2] 37
 have HY5:Hid (LE=L1+1):=zh (by rw [HX5.out,HW4.out,HX4.out];simp)
 go_upto_region 3 with fail
 rw [←HX3.out,←HW3.out,←HY4.out,←HW4.out,←HY5.out,←HW5.out]
 clear HX3 HW3 C2 HY4 HX4 HW4 C3 HY5 HX5 HW5 C4 q0
 have q3:=cells6 (C5.out.b 3 rfl)
 obtain⟨B2,w6,HX6,HW6,hx6,C6⟩:=C5.out.boxE #[.int .i64 3,.int .i64 0,.int .i64 0,.string ⟨#[97]⟩,.bool false,.slice none 0 0,.int .i64 0,.int .i64 0,.int .i64 3,.string ⟨#[]⟩,.bool false,.slice none 0 0] 37
 obtain⟨BO,w7,HX7,HW7,hx7,C7⟩:=C6.out.boxE #[.int .i64 10,.int .i64 11,.int .i64 0,.string ⟨#[]⟩,.bool false,.slice (some ⟨B2,0,none⟩) 2 2] 37
 have HY7:Hid (BO=B2+1):=zh (by rw [HX7.out,HW6.out,HX6.out];simp)
 go_upto_region 4 with fail
 rw [←HX6.out,←HW6.out,←HY7.out,←HW7.out]
 clear HX6 HW6 C5 HY7 HX7 HW7 C6 q3
 have q2:=cells6 (C7.out.b 2 rfl)
 have q0:=cells6 (C7.out.b 0 rfl)
 obtain⟨LS,w8,HX8,HW8,hx8,C8⟩:=C7.out.boxE #[.int .i64 10,.int .i64 7,.int .i64 0,.string ⟨#[]⟩,.bool false,.slice (some ⟨L1,0,none⟩) 2 2] 37
 obtain⟨BS,w9,HX9,HW9,hx9,C9⟩:=C8.out.boxE #[.int .i64 10,.int .i64 11,.int .i64 0,.string ⟨#[]⟩,.bool false,.slice (some ⟨B2,0,none⟩) 2 2] 37
 have HY9:Hid (BS=LS+1):=zh (by rw [HX9.out,HW8.out,HX8.out];simp)
 obtain⟨S1,w10,HX10,HW10,hx10,C10⟩:=C9.out.boxE #[.int .i64 6,.string ⟨#[]⟩,.slice (some ⟨BS,0,none⟩) 1 1,.slice none 0 0,.slice none 0 0] 71
 have HY10:Hid (S1=BS+1):=zh (by rw [HX10.out,HW9.out,HX9.out];simp)
 obtain⟨S0,w11,HX11,HW11,hx11,C11⟩:=C10.out.boxE #[.int .i64 3,.string ⟨#[]⟩,.slice (some ⟨LS,0,none⟩) 1 1,.slice (some ⟨S1,0,none⟩) 1 1,.slice none 0 0] 71
 have HY11:Hid (S0=S1+1):=zh (by rw [HX11.out,HW10.out,HX10.out];simp)
 go_upto_region 5 with fail
 rw [←HX8.out,←HW8.out,←HY9.out,←HW9.out,←HY10.out,←HW10.out,←HY11.out,←HW11.out]
 clear HX8 HW8 C7 HY9 HX9 HW9 C8 HY10 HX10 HW10 C9 HY11 HX11 HW11 C10 q2 q0
 have q10:=cells1 (C11.out.b 10 rfl)
 obtain⟨PA,w12,HX12,HW12,hx12,C12⟩:=C11.out.boxE #[.string ⟨#[97]⟩] 9
 obtain⟨ME,w13,HX13,HW13,hx13,C13⟩:=C12.out.boxE #[.string ⟨#[103,111]⟩,.slice (some ⟨PA,0,none⟩) 1 1,.slice (some ⟨S0,0,none⟩) 1 1] 62
 have HY13:Hid (ME=PA+1):=zh (by rw [HX13.out,HW12.out,HX12.out];simp)
 obtain⟨CL,w14,HX14,HW14,hx14,C14⟩:=C13.out.boxE #[.string ⟨#[65]⟩,.bool true,.slice none 0 0,.slice (some ⟨ME,0,none⟩) 1 1] 55
 have HY14:Hid (CL=ME+1):=zh (by rw [HX14.out,HW13.out,HX13.out];simp)
 obtain⟨zl,zc,zf⟩:=cells1 (C14.out.b 13 rfl)
 simp only [HW14.out,HW13.out,HY13.out,HW12.out,HX12.out] at zl zc zf
 go_wp2_with fail
 rw [←HX12.out,←HW12.out,←HY13.out,←HW13.out,←HY14.out,←HW14.out]
 clear HX12 HW12 C11 HY13 HX13 HW13 C12 HY14 HX14 HW14 C13 q10
 refine Mz.retP1 (Post:=ExPost w) C14.out 13 rfl Tryz.results30 rfl rfl (fun W9 h9=>⟨_,rfl,?_,h9.gr.fresh⟩)
 have e2:SlE W9 (.slice (some ⟨L2,0,none⟩) 2 2) [Co.exI 2,Co.exI 1]:=zH9 (h9.b 11 rfl) [(Co.exI 2,.slice none 0 0),(Co.exI 1,.slice none 0 0)] (by simp) rfl (fun z hz=>by
  rcases List.mem_cons.1 hz with rfl|hz
  ·exact⟨zM5 2 (by decide),.nil _ _⟩
  ·rw [List.mem_singleton.1 hz];exact⟨zM5 1 (by decide),.nil _ _⟩)
 have e1:SlE W9 (.slice (some ⟨L1,0,none⟩) 2 2) [Co.exA,Co.exSub]:=zH9 (h9.b 10 rfl) [(Co.exA,.slice none 0 0),(Co.exSub,.slice (some ⟨L2,0,none⟩) 2 2)] (by simp) rfl (fun z hz=>by
  rcases List.mem_cons.1 hz with rfl|hz
  ·exact⟨zS9,.nil _ _⟩
  ·rw [List.mem_singleton.1 hz];exact⟨zSO,e2⟩)
 have b2:SlE W9 (.slice (some ⟨B2,0,none⟩) 2 2) [Co.exA,Co.exI 3]:=zH9 (h9.b 8 rfl) [(Co.exA,.slice none 0 0),(Co.exI 3,.slice none 0 0)] (by simp) rfl (fun z hz=>by
  rcases List.mem_cons.1 hz with rfl|hz
  ·exact⟨zS9,.nil _ _⟩
  ·rw [List.mem_singleton.1 hz];exact⟨zM5 3 (by decide),.nil _ _⟩)
 have ls:SlE W9 (.slice (some ⟨LS,0,none⟩) 1 1) [Co.exLess]:=zD5 (e:=Co.exLess) (h9.b 6 rfl) ⟨by decide,by decide,by decide,by decide⟩ e1
 have bs:SlE W9 (.slice (some ⟨BS,0,none⟩) 1 1) [Co.exBoth]:=zD5 (e:=Co.exBoth) (h9.b 5 rfl) ⟨by decide,by decide,by decide,by decide⟩ b2
 have s1:SlS W9 (.slice (some ⟨S1,0,none⟩) 1 1) [Co.exS1]:=zH8 (s:=Co.exS1) (h9.b 4 rfl) ⟨by decide,by decide⟩ bs (.nil _ _) (.nil _ _)
 have s0:SlS W9 (.slice (some ⟨S0,0,none⟩) 1 1) [Co.exS0]:=zH8 (s:=Co.exS0) (h9.b 3 rfl) ⟨by decide,by decide⟩ ls s1 (.nil _ _)
 have pa:SlStr W9 (.slice (some ⟨PA,0,none⟩) 1 1) [⟨#[97]⟩]:=zJD (l:= [⟨#[97]⟩]) (h9.b 2 rfl) rfl (by decide) (fun s hs=>by rw [List.mem_singleton.1 hs];decide)
 have me:SlM W9 (.slice (some ⟨ME,0,none⟩) 1 1) [Co.exM]:=zL4 (m:=Co.exM) (h9.b 1 rfl) (by decide) pa s0
 exact zL5 (c:=Co.exC) (h9.b 0 rfl) (by decide) (zF6 _ _ _) me
set_option maxRecDepth 100000 in
set_option maxHeartbeats 16000000 in
theorem zLW (w:World) (hE:CoEnv w):Calls Tryz.prog 10 #[] w fun e w'=>e= .returned (.bool true)∧Below w.heap.size w w':=by
 have HE:=zh hE
 clear hE
 go_enter Tryz.func10,Tryz.ntmps10
 go_wp2_with fail
 refine(zIQ _).mono ?_
 rintro e w1 ⟨v,rfl,hs,hb1⟩
 have HS1:=zh hs
 have HB1:=zh hb1
 clear hs hb1
 go_wp2_with fail
 refine(zIB HS1.out (HE.out.keep HB1.out) (Ck.zL3 Co.zQR (by decide)) (Tr.zQO Co.zQR (by decide)) (Co.zS6 Co.zQR (by decide))).mono ?_
 rintro e w2 ⟨hb2,v2,hp⟩
 rcases hp with ⟨_,l,hl,rfl,hs2⟩|⟨_,n,_,⟨r,hr⟩|⟨_,hr,_⟩⟩
 rotate_left
 ·rw [Co.zSG] at hr;cases hr
 ·rw [Co.zQS] at hr;cases hr
 rw [Co.zQS] at hl
 cases hl
 have HB2:=zh (HB1.out.trans (hb2.mono HB1.out.size))
 have hs3:SlCc w2 v2 [Co.exCc]:=SlCc.inc hs2 zGW
 clear hb2 hs2
 obtain⟨pc,cc,rfl,_⟩:=hs3.form
 obtain⟨b1,o1,x1,y1,rfl,hl1,⟨_,_,_,u3⟩,_,_,hmm⟩:=hs3.get (j:=0) (m:=Co.exCc) rfl
 obtain⟨pm,cm,rfl,_⟩:=hmm.form
 obtain⟨b2,o2,x2,y2,rfl,hl2,⟨_,_,_,t3,_⟩,_,hco,_⟩:=hmm.get (j:=0) (m:=⟨⟨#[103,111]⟩,1,1,Co.exCode,[]⟩) rfl
 obtain⟨pi,ci,rfl,_⟩:=hco.form
 simp only [Nat.zero_mul,Nat.add_zero] at u3 t3
 have hlm:Co.exCc.methods.length=1:=rfl
 have hlc:Co.exCode.length=12:=rfl
 have hl0: [Co.exCc].length=1:=rfl
 rw [hlm] at u3
 rw [hlc] at t3
 rw [hl0]
 have C2:=zh (My.start w2)
 have HU:=zh u3
 have HT:=zh t3
 have HCO:=zh hco
 clear hs3 hmm hco u3 t3 hlm hlc hl0
 obtain⟨CO,w15,HX,HW,hx15,C15⟩:=C2.out.boxE #[.slice (some ⟨b1,o1,none⟩) 1 cc] 29
 go_upto_region 2 with fail
 rw [←HX.out,←HW.out]
 clear HX HW C2
 have u3:=zA C15.out.gr.fresh HU.out
 have t3:=zA C15.out.gr.fresh HT.out
 have q0:=cells1 (C15.out.b 0 rfl)
 go_upto_region 4 with fail
 clear u3 t3 q0
 obtain⟨WA,w16,HX,HW,hx16,C16⟩:=C15.out.boxE #[.int .i64 3,.int .i64 0,.int .i64 0,.int .i64 0,.int .i64 1,.int .i64 0,.int .i64 16,.int .i64 7,.int .i64 0,.int .i64 19,.int .i64 11,.int .i64 0,.int .i64 3,.int .i64 0,.int .i64 0,.int .i64 19,.int .i64 9,.int .i64 0,.int .i64 0,.int .i64 3,.int .i64 0,.int .i64 17,.int .i64 0,.int .i64 0,.int .i64 18,.int .i64 10,.int .i64 0,.int .i64 0,.int .i64 0,.int .i64 0,.int .i64 22,.int .i64 0,.int .i64 0,.int .i64 25,.int .i64 0,.int .i64 0] 65
 go_upto_region 5 with fail
 rw [←HX.out,←HW.out]
 clear HX HW C15
 have u3:=zA C16.out.gr.fresh HU.out
 have t3:=zA C16.out.gr.fresh HT.out
 have HWA:Hid (SlI w16 (.slice (some ⟨WA,0,none⟩) 12 12) Co.exCode):=zh (zTN (l:=Co.exCode) (C16.out.b 0 rfl) rfl (by decide))
 have HGO:=zh (HCO.out.keep C16.out.gr.fresh)
 have HLC:Hid (Co.exCode.length=12):=zh rfl
 have q1:=cells1 (C16.out.b 1 rfl)
 have hh1:=hl1
 go_upto_region 8 with fail
 clear u3 t3 hh1 q1
 clear hl1 hl2 HU HT HCO
 have CQ:=C16
 go_wp2_with fail
 go_loopg [5] 12 (fun gg s5 wr=>∃j:Nat,s5= .int .i64 j∧j≤12∧gg=12 -j∧Hid (My w2 [] [] wr)∧Hid (Below w16.heap.size w16 wr))
 case atStart=>exact ⟨0,rfl,by omega,rfl,zh (CQ.out.sub (List.nil_sublist _)),zh (Below.refl _ _)⟩
 case round=>
  clear CQ C16
  obtain⟨j,rfl,hj,rfl,CR,HBR⟩:=hrel
  by_cases hlt:j<12
  ·obtain⟨x,hx⟩:∃x,Co.exCode[j]? =some x:=⟨_,List.getElem?_eq_getElem (by rw [HLC.out];exact hlt)⟩
   obtain⟨xo,xa,xb⟩:=x
   have hga:=HGO.out.keep HBR.out
   rw [HLC.out] at hga
   obtain⟨gb1,go1,rfl,hgl,c0,c1,c2⟩:=hga.get hx
   obtain⟨wb1,wo1,hwe,hwl,d0,d1,d2⟩:=(HWA.out.keep HBR.out).get hx
   cases hwe
   dsimp only at c0 c1 c2 d0 d1 d2
   simp only [Nat.zero_add] at d0 d1 d2
   have b0j:(0:Int)≤(j:Int):=by omega
   have b3j:(j:Int)<12:=by omega
   have HSH:Hid (wr.cell? ⟨gb1,go1+j*3,none⟩=some (.int .i64 xo)∧wr.cell? ⟨gb1,go1+j*3+1,none⟩=some (.int .i64 xa)∧wr.cell? ⟨gb1,go1+j*3+2,none⟩=some (.int .i64 xb)∧wr.cell? ⟨WA,j*3,none⟩=some (.int .i64 xo)∧wr.cell? ⟨WA,j*3+1,none⟩=some (.int .i64 xa)∧wr.cell? ⟨WA,j*3+2,none⟩=some (.int .i64 xb)):=zh ⟨c0,c1,c2,d0,d1,d2⟩
   clear hga hx c0 c1 c2 d0 d1 d2
   go_upto_region 11 with fail
   obtain⟨wd,HWD,CD⟩:=CR.out.drewE
   refine wp_region_held_drew (S:=fun W=>W.cell? ⟨gb1,go1+j*3,none⟩=some (.int .i64 xo)∧W.cell? ⟨gb1,go1+j*3+1,none⟩=some (.int .i64 xa)∧W.cell? ⟨gb1,go1+j*3+2,none⟩=some (.int .i64 xb)∧W.cell? ⟨WA,j*3,none⟩=some (.int .i64 xo)∧W.cell? ⟨WA,j*3+1,none⟩=some (.int .i64 xa)∧W.cell? ⟨WA,j*3+2,none⟩=some (.int .i64 xb)) (by kernel_rfl) (by rw [←HWD.out];rw [HWD.out];exact HSH.out) (fun hHeld=>?_)
   have HBD:Hid (Below wr.heap.size wr wd):=zh (by rw [HWD.out];exact zCJ (zDS (zBE _ _)))
   rw [←HWD.out] at hHeld ⊢
   refine rU 0 (some 60) ?_
   refine rU 1 (some 61) ?_
   refine rU 2 (some 62) ?_
   refine rU 3 (some 63) ?_
   refine rU 4 (some 64) ?_
   refine rU 5 (some 65) ?_
   refine rU 6 (some 66) ?_
   refine rU 7 (some 67) ?_
   refine rU 8 (some 68) ?_
   refine wpAnyH_done (by kernel_rfl) ?_ _
   clear hHeld
   go_wp2_with fail
   go_roundg (12 -(j+1))
   case measure=>omega
   case rel=>exact ⟨j+1,by go_num,by omega,rfl,CD,zh (HBR.out.trans (HBD.out.mono HBR.out.size))⟩
  ·obtain rfl:j=12:=by omega
   clear HBR HWA HGO HLC hlt hj
   obtain⟨NX,w17,HX,HW,hx17,C17⟩:=CR.out.boxE #[.int .i64 0,.int .i64 0,.int .i64 5,.string ⟨#[]⟩,.bool false,.slice none 0 0] 37
   go_wp2_with fail
   rw [←HX.out,←HW.out]
   clear HX HW CR
   have hfo:=zST Co.exN (.slice (some ⟨NX,0,none⟩) 1 1) w17 ((HE.out.keep HB2.out).keep C17.out.gr.fresh).syn.lex (by decide) ⟨by decide,by decide,by decide,by decide⟩ (zD5 (e:=Co.exI 5) (C17.out.b 0 rfl) (zM5 5 (by decide)) (.nil _ _))
   rw [Co.zT9] at hfo
   refine Calls.mono hfo ?_
   clear hfo
   rintro e w7 hfv
   obtain⟨a7,rfl,_,hs7,hb7⟩:=hfv
   obtain⟨pa,ca,rfl,_⟩:=hs7.form
   have HB7:=zh hb7
   have hk:Calls Tryz.prog 17 #[.agg #[.int .i64 0,.int .i64 0,.int .i64 0,.string ⟨#[]⟩,.bool false,.slice pa 0 ca],.agg #[.int .i64 0,.int .i64 0,.int .i64 0,.string ⟨#[]⟩,.bool false,.slice none 0 0]] w7 fun r w8=>r= .returned (.bool (Sy.sameE (Co.exI 0) (Co.exI 0)))∧Below w7.heap.size w7 w8:=zGC 1 (Co.exI 0) (Co.exI 0) (.slice pa 0 ca) (.slice none 0 0) w7 (by decide) hs7 (.nil _ _)
   rw [(Sy.zEA _ _).2 rfl] at hk
   have HK:=zh hk
   unfold exprV
   simp only [Co.exI,Tr.E.kind,Tr.E.op,Tr.E.int,Tr.E.name,Tr.E.at_,Tr.E.args,List.length_nil]
   clear hk hs7 hb7
   go_wp2_with fail
   refine HK.out.mono ?_
   rintro e w8 ⟨rfl,hb8⟩
   go_wp2_with fail
   go_ret
   exact⟨rfl,HB2.out.trans (((C17.out.gr.fresh.trans (HB7.out.mono C17.out.gr.fresh.size)).trans (hb8.mono (Nat.le_trans C17.out.gr.fresh.size HB7.out.size))).mono HB2.out.size)⟩
end Cw
end Go.Proofs.YtcnmfcgmnkncaaaGreatDoor
namespace Go.Proofs.YtcnmfcgmnkncaaaGreatDoor
namespace Cw
open Go.RowKit Go.Maps Pw
abbrev Mo (w:World) (os:List (World→Prop)) (W:World):Prop:=Mz 0 0 w [] (fun _=>True) [] [] os W
def RB (b:Nat) (cs:Array Value):World→Prop:=fun W=>∀(j:Nat) (u:Value),cs[j]? =some u→W.cell? ⟨b,j,none⟩=some u
theorem rb_mn {b:Nat} {cs:Array Value}:Mn (RB b cs):=fun _ _ hi h j u hu=>hi.2 _ _ _ (h j u hu)
def RCc (a:Value) (l:List Co.Cc):World→Prop:=fun W=>SlCc W a l
def RI (a:Value) (l:List Co.Ins):World→Prop:=fun W=>SlI W a l
theorem ri_mn {a:Value} {l:List Co.Ins}:Mn (RI a l):=fun _ _ hi h=>SlI.inc h hi
section
variable {w W W':World} {os:List (World→Prop)}
theorem Mo.start (w:World):Mo w [] w:=Mz.start trivial (fun _ _ _=>trivial) (Nat.zero_le _) (Nat.zero_le _) (fun _ h=>by cases h) (fun _ h=>by cases h)
theorem Mo.add (h:Mo w os W) {r:World→Prop} (hm:Mn r) (hr:r W):Mo w (r::os) W:=Mz.get h hm (hm _ _ (zSC W) hr)
theorem Mo.boxO (h:Mo w os W) (cs:Array Value) (t:TypeId):∃X W',Hid (X=W.heap.size)∧Hid (W'=W.alloc (.cells cs t))∧Hid (Mo w (RB X cs::os) W'):=
 ⟨_,_,zh rfl,zh rfl,zh (Mo.add (Mz.below h (zD W _)) rb_mn (fun j u hu=>zP W cs t j u hu))⟩
theorem Mo.fresh (h:Mo w os W):Below w.heap.size w W:=h.gr.fresh
end
set_option maxRecDepth 100000 in
set_option maxHeartbeats 1000000 in
theorem zG1 (e:Tr.E) (a:Value) (n:Int) (w:World) (hbd:BdE e) (hS:SlE w a e.args) (h0:0≤n) (hn:n≤1000000):
 Calls Tryz.prog 15 #[exprV e a,.int .i64 n] w fun r w'=>r= .returned (.bool (Tr.fewE e n))∧Below w.heap.size w w':=by
 have hbx:=zD w (.cells #[.int .i64 e.kind,.int .i64 e.op,.int .i64 e.int,.string e.name,.bool e.at_,a] 37)
 have K:=zJY e.deep e a n _ (Nat.le_refl _) hbd (hS.keep hbx) h0 hn
 have HK:=zh K
 have HB:=zh hbx
 have hfin:Tr.fewE e n=decide (0≤Tr.leftE e n):=rfl
 obtain⟨m,hm⟩:∃q,Tr.leftE e n=q:=⟨_,rfl⟩
 rw [hm] at hfin HK
 rw [hfin]
 clear hbd hS K hbx hfin hm
 unfold exprV at HK ⊢
 go_enter Tryz.func15,Tryz.ntmps15
 go_wp2_with fail
 refine HK.out.mono ?_
 rintro r w2 ⟨rfl,hb2⟩
 have HB2:=zh (zC HB.out hb2)
 clear hb2
 go_wp2_with fail
 go_ret
 exact⟨rfl,HB2.out⟩
theorem few_wE {e:Tr.E} {n:Int} (h:Tr.fewE e n=true) (hn:n≤1000):Co.wE e≤900000:=by
 have h1:0≤Tr.leftE e n:=of_decide_eq_true h
 have:=Co.zOS e n h1
 omega
end Cw
end Go.Proofs.YtcnmfcgmnkncaaaGreatDoor
