/-
  operate of the laws of chapter 42, whole; covered, values, walked.
-/
import Derived.Test.YtcnmfcgmnkncaaaGreatDoorJ27
namespace Go.Proofs.YtcnmfcgmnkncaaaGreatDoor
namespace Cw
open Go.RowKit Go.Maps Pw
theorem tl97:(⟨#[97]⟩:ByteArray).toList= [97]:=by kernel_rfl
theorem tl98:(⟨#[98]⟩:ByteArray).toList= [98]:=by kernel_rfl
theorem nm97 (s:ByteArray):(s.toList == [97])=decide (s=⟨#[97]⟩):=by
 have h:=zAK s ⟨#[97]⟩
 rw [tl97] at h
 exact h
theorem nm98 (s:ByteArray):(s.toList == [98])=decide (s=⟨#[98]⟩):=by
 have h:=zAK s ⟨#[98]⟩
 rw [tl98] at h
 exact h
theorem zSW {a b:Co.Val} (hs:a.isSome=b.isSome) (hn:a.getD 0=b.getD 0):a=b:=by
 cases a with
 |none=>cases b with
  |none=>rfl
  |some y=>cases hs
 |some x=>cases b with
  |none=>cases hs
  |some y=>exact congrArg some hn
theorem zE9 (o:Int) (a b:Co.Val) (h0:0≤o) (h1:o≤10) (w:World):
 Calls Tryz.prog 50 #[.int .i64 o,vV a,vV b] w fun e w'=>e= .returned (.tuple #[vV (Co.operate 7 2 o a b).1,.int .i64 (Co.operate 7 2 o a b).2])∧Below w.heap.size w w':=by
 by_cases h5:o=5
 ·subst h5
  have e:Co.operate 7 2 5 a b=(some (Co.bit (a == b)),0):=by unfold Co.operate;rw [if_pos rfl]
  rw [e]
  by_cases hs:a.isSome=b.isSome
  ·by_cases hn:a.getD 0=b.getD 0
   ·obtain rfl:=zSW hs hn
    rw [show (a == a)=true by simp]
    exact op5_eq a.isSome (a.getD 0) w
   ·rw [show (a == b)=false from beq_eq_false_iff_ne.2 (fun e=>hn (by rw [e]))]
    have h9:=op5_n1 a.isSome (a.getD 0) (b.getD 0) hn w
    unfold vV
    rw [←hs]
    exact h9
  ·rw [show (a == b)=false from beq_eq_false_iff_ne.2 (fun e=>hs (by rw [e]))]
   exact op5_n2 a.isSome b.isSome (a.getD 0) (b.getD 0) hs w
 ·by_cases h6:o=6
  ·subst h6
   have e:Co.operate 7 2 6 a b=(some (Co.bit (a != b)),0):=by unfold Co.operate;rw [if_neg (by decide),if_pos rfl]
   rw [e]
   by_cases hs:a.isSome=b.isSome
   ·by_cases hn:a.getD 0=b.getD 0
    ·obtain rfl:=zSW hs hn
     rw [show (a != a)=false by simp]
     exact op6_eq a.isSome (a.getD 0) w
    ·rw [show (a != b)=true from bne_iff_ne.2 (fun e=>hn (by rw [e]))]
     have h9:=op6_n1 a.isSome (a.getD 0) (b.getD 0) hn w
     unfold vV
     rw [←hs]
     exact h9
   ·rw [show (a != b)=true from bne_iff_ne.2 (fun e=>hs (by rw [e]))]
    exact op6_n2 a.isSome b.isSome (a.getD 0) (b.getD 0) hs w
  ·match a,b with
   |none,b=>
    have e:Co.operate 7 2 o none b=(none,7):=by unfold Co.operate;rw [if_neg h5,if_neg h6]
    rw [e]
    exact opX_ns o b.isSome (b.getD 0) h5 h6 w
   |some x,none=>
    have e:Co.operate 7 2 o (some x) none=(none,7):=by unfold Co.operate;rw [if_neg h5,if_neg h6]
    rw [e]
    exact opX_an o x h5 h6 w
   |some x,some y=>
    have hs:o=0∨o=1∨o=2∨o=3∨o=4∨o=7∨o=8∨o=9∨o=10:=by omega
    rcases hs with rfl|rfl|rfl|rfl|rfl|rfl|rfl|rfl|rfl
    ·exact op0_L x y w
    ·exact op1_L x y w
    ·exact op2_L x y w
    ·by_cases hy:y=0
     ·subst hy
      exact op3_0 x w
     ·have e:Co.operate 7 2 3 (some x) (some y)=(some (Co.wrap (x.tdiv y)),0):=by unfold Co.operate;simp [hy]
      rw [e]
      exact op3_L x y hy w
    ·by_cases hy:y=0
     ·subst hy
      exact op4_0 x w
     ·have e:Co.operate 7 2 4 (some x) (some y)=(some (Co.wrap (x.tmod y)),0):=by unfold Co.operate;simp [hy]
      rw [e]
      exact op4_L x y hy w
    ·exact op7_L x y w
    ·exact op8_L x y w
    ·exact op9_L x y w
    ·exact op10_L x y w
theorem zFT:∀l:List Tr.E,Co.covs l=l.all Co.cov
 | []=>by rw [Co.covs];rfl
 |e::r=>by rw [Co.covs,zFT r];rfl
theorem zE1 {l:List Tr.E} {x:Tr.E} (hx:x∈l) (h:Co.cov x=false):Co.covs l=false:=by
 rw [zFT,List.all_eq_false]
 exact⟨x,hx,by rw [h];decide⟩
theorem zG5 {l:List Tr.E} {j:Nat} {x:Tr.E} (hx:l[j]? =some x) (h:Co.covs (l.take j)=true) (h2:Co.cov x=true):Co.covs (l.take (j+1))=true:=by
 rw [zCT hx,zFT,List.all_append,←zFT,h]
 simp [h2]
set_option maxRecDepth 100000 in
set_option maxHeartbeats 16000000 in
theorem zC5:∀(d:Nat) (e:Tr.E) (a:Value) (w:World),e.deep≤d→BdE e→SlE w a e.args→
 Calls Tryz.prog 20 #[exprV e a] w fun r w'=>r= .returned (.bool (Co.cov e))∧Below w.heap.size w w':=by
 intro d
 induction d with
 |zero=>intro e a w hd;exact absurd (Tr.E.deep_pos e) (by omega)
 |succ d ih=>
  intro e a w hd hbd hS
  have IH:=zh ih
  have HB:=zh hbd
  obtain⟨k,o,i,nm,at_,l⟩:=e
  have hS2:SlE w a l:=hS
  have HD:Hid (∀(j:Nat) (x:Tr.E),l[j]? =some x→x.deep≤d):=zh (fun j x hx=>Tr.E.deep_args (e:= .mk k o i nm at_ l) hd hx)
  obtain⟨p,c,rfl,_⟩:=hS2.form
  obtain⟨N,hN⟩:∃q,l.length=q:=⟨_,rfl⟩
  have hlen:=hS2.len
  unfold maxLen at hlen
  rw [hN] at hS2 hlen ⊢
  have HN:=zh hN
  have C0:=zh (Mo.add (Mo.start w) (r:=RE (.slice p N c) l) re_mn hS2)
  clear hS hS2 hbd hd ih hN
  unfold exprV
  simp only [Tr.E.kind,Tr.E.op,Tr.E.int,Tr.E.name,Tr.E.at_]
  obtain⟨CV,hCV⟩:∃q,Co.cov (.mk k o i nm at_ l)=q:=⟨_,rfl⟩
  rw [hCV]
  rw [Co.cov] at hCV
  by_cases h0:k=0
  ·subst h0
   obtain rfl:CV=true:=by rw [←hCV];rfl
   clear hCV
   obtain⟨E,w1,HX,HW,C1⟩:=C0.out.boxO #[.int .i64 0,.int .i64 o,.int .i64 i,.string nm,.bool at_,.slice p N c] 37
   go_enter Tryz.func20,Tryz.ntmps20
   go_upto_region 1 with fail
   rw [←HX.out,←HW.out]
   clear HX HW C0
   have cE_0:=(C1.out.rd 0 rfl) 0 _ rfl
   have cE_1:=(C1.out.rd 0 rfl) 1 _ rfl
   have cE_2:=(C1.out.rd 0 rfl) 2 _ rfl
   have cE_3:=(C1.out.rd 0 rfl) 3 _ rfl
   have cE_4:=(C1.out.rd 0 rfl) 4 _ rfl
   have cE_5:=(C1.out.rd 0 rfl) 5 _ rfl
   go_wp2_with fail
   clear cE_0 cE_1 cE_2 cE_3 cE_4 cE_5
   go_ret
   exact⟨rfl,C1.out.gr.fresh⟩
  by_cases h1:k=1
  ·subst h1
   obtain rfl:CV=true:=by rw [←hCV];rfl
   clear hCV
   obtain⟨E,w2,HX,HW,C2⟩:=C0.out.boxO #[.int .i64 1,.int .i64 o,.int .i64 i,.string nm,.bool at_,.slice p N c] 37
   go_enter Tryz.func20,Tryz.ntmps20
   go_upto_region 1 with fail
   rw [←HX.out,←HW.out]
   clear HX HW C0
   have cE_0:=(C2.out.rd 0 rfl) 0 _ rfl
   have cE_1:=(C2.out.rd 0 rfl) 1 _ rfl
   have cE_2:=(C2.out.rd 0 rfl) 2 _ rfl
   have cE_3:=(C2.out.rd 0 rfl) 3 _ rfl
   have cE_4:=(C2.out.rd 0 rfl) 4 _ rfl
   have cE_5:=(C2.out.rd 0 rfl) 5 _ rfl
   go_wp2_with fail
   clear cE_0 cE_1 cE_2 cE_3 cE_4 cE_5
   go_ret
   exact⟨rfl,C2.out.gr.fresh⟩
  by_cases h3:k=3
  ·subst h3
   clear h0 h1
   have hcv:CV=(decide (nm=⟨#[97]⟩)||decide (nm=⟨#[98]⟩)):=by rw [←hCV,if_neg (by decide),if_pos rfl]
   clear hCV
   by_cases ha:nm=⟨#[97]⟩
   ·subst ha
    obtain rfl:CV=true:=by rw [hcv];rfl
    clear hcv
    obtain⟨E,w3,HX,HW,C3⟩:=C0.out.boxO #[.int .i64 3,.int .i64 o,.int .i64 i,.string ⟨#[97]⟩,.bool at_,.slice p N c] 37
    go_enter Tryz.func20,Tryz.ntmps20
    go_upto_region 1 with fail
    rw [←HX.out,←HW.out]
    clear HX HW C0
    have cE_0:=(C3.out.rd 0 rfl) 0 _ rfl
    have cE_1:=(C3.out.rd 0 rfl) 1 _ rfl
    have cE_2:=(C3.out.rd 0 rfl) 2 _ rfl
    have cE_3:=(C3.out.rd 0 rfl) 3 _ rfl
    have cE_4:=(C3.out.rd 0 rfl) 4 _ rfl
    have cE_5:=(C3.out.rd 0 rfl) 5 _ rfl
    go_wp2_with fail
    clear cE_0 cE_1 cE_2 cE_3 cE_4 cE_5
    go_ret
    exact⟨rfl,C3.out.gr.fresh⟩
   ·have h97:(nm.toList == [97])=false:=by rw [nm97];exact decide_eq_false ha
    have hp97:¬nm.toList= [97]:=beq_eq_false_iff_ne.1 h97
    obtain⟨B9,hB9⟩:∃q,(nm.toList == [98])=q:=⟨_,rfl⟩
    obtain rfl:CV=B9:=by rw [hcv,decide_eq_false ha,Bool.false_or,←hB9,nm98]
    clear hcv ha
    obtain⟨E,w4,HX,HW,C4⟩:=C0.out.boxO #[.int .i64 3,.int .i64 o,.int .i64 i,.string nm,.bool at_,.slice p N c] 37
    go_enter Tryz.func20,Tryz.ntmps20
    go_upto_region 1 with fail
    rw [←HX.out,←HW.out]
    clear HX HW C0
    have cE_0:=(C4.out.rd 0 rfl) 0 _ rfl
    have cE_1:=(C4.out.rd 0 rfl) 1 _ rfl
    have cE_2:=(C4.out.rd 0 rfl) 2 _ rfl
    have cE_3:=(C4.out.rd 0 rfl) 3 _ rfl
    have cE_4:=(C4.out.rd 0 rfl) 4 _ rfl
    have cE_5:=(C4.out.rd 0 rfl) 5 _ rfl
    go_wp2_with fail
    clear cE_0 cE_1 cE_2 cE_3 cE_4 cE_5
    go_ret
    exact⟨rfl,C4.out.gr.fresh⟩
  by_cases h8:k=8
  ·subst h8
   clear h0 h1 h3
   have HCV:Hid (Co.covs l=CV):=zh (by rw [←hCV,if_neg (by decide),if_neg (by decide),if_pos (by decide)])
   clear hCV
   obtain⟨E,w5,HX,HW,C5⟩:=C0.out.boxO #[.int .i64 8,.int .i64 o,.int .i64 i,.string nm,.bool at_,.slice p N c] 37
   go_enter Tryz.func20,Tryz.ntmps20
   go_upto_region 1 with fail
   rw [←HX.out,←HW.out]
   clear HX HW C0
   have cE_0:=(C5.out.rd 0 rfl) 0 _ rfl
   have cE_1:=(C5.out.rd 0 rfl) 1 _ rfl
   have cE_2:=(C5.out.rd 0 rfl) 2 _ rfl
   have cE_3:=(C5.out.rd 0 rfl) 3 _ rfl
   have cE_4:=(C5.out.rd 0 rfl) 4 _ rfl
   have cE_5:=(C5.out.rd 0 rfl) 5 _ rfl
   go_wp2_with fail
   clear cE_0 cE_1 cE_2 cE_3 cE_4 cE_5
   go_loopg [3] N (fun gg s3 wr=>∃j:Nat,s3= .int .i64 j∧j≤N∧gg=N -j∧Hid (Co.covs (l.take j)=true)∧Hid (Mo w [RB E #[.int .i64 8,.int .i64 o,.int .i64 i,.string nm,.bool at_,.slice p N c],RE (.slice p N c) l] wr))
   case atStart=>exact ⟨0,rfl,Nat.zero_le _,rfl,zh (by rw [List.take_zero,Co.covs]),C5⟩
   case round=>
    clear C5
    obtain⟨j,rfl,hj,rfl,HCS,CR⟩:=hrel
    by_cases hlt:j<N
    ·obtain⟨x,hx⟩:∃x,l[j]? =some x:=⟨_,List.getElem?_eq_getElem (by rw [HN.out];exact hlt)⟩
     obtain⟨b,oo,aa,hpe,hbl,⟨x0,x1,x2,x3,x4,x5⟩,hbx,hsx⟩:=SlE.get (CR.out.rd 1 rfl) hx
     subst hpe
     obtain⟨px,cx,rfl,_⟩:=hsx.form
     obtain⟨NX,hNX⟩:∃q,x.args.length=q:=⟨_,rfl⟩
     rw [hNX] at x5 hsx
     clear hNX
     have hk:=IH.out x (.slice px NX cx) wr (HD.out j x hx) hbx hsx
     unfold exprV at hk
     have HK:=zh hk
     have HX:=zh hx
     have b0j:(0:Int)≤(j:Int):=by omega
     have b3j:(j:Int)<(N:Int):=by omega
     clear hk hbx hsx hx
     have cE_0:=(CR.out.rd 0 rfl) 0 _ rfl
     have cE_1:=(CR.out.rd 0 rfl) 1 _ rfl
     have cE_2:=(CR.out.rd 0 rfl) 2 _ rfl
     have cE_3:=(CR.out.rd 0 rfl) 3 _ rfl
     have cE_4:=(CR.out.rd 0 rfl) 4 _ rfl
     have cE_5:=(CR.out.rd 0 rfl) 5 _ rfl
     go_wp2_with fail
     clear cE_0 cE_1 cE_2 cE_3 cE_4 cE_5
     clear x0 x1 x2 x3 x4 x5 hbl
     refine HK.out.mono ?_
     rintro e w9 ⟨rfl,hb9⟩
     have C9:=zh (Mz.below CR.out hb9)
     clear hb9 CR HK
     cases hcx:Co.cov x
     ·obtain rfl:CV=false:=by rw [←HCV.out];exact zE1 (List.mem_of_getElem? HX.out) hcx
      clear hcx
      go_wp2_with fail
      go_ret
      exact⟨rfl,C9.out.gr.fresh⟩
     ·have HNX:Hid (Co.covs (l.take (j+1))=true):=zh (zG5 HX.out HCS.out hcx)
      clear hcx
      go_wp2_with fail
      go_roundg (N -(j+1))
      case measure=>omega
      case rel=>exact ⟨j+1,by go_num,by omega,rfl,HNX,C9⟩
    ·obtain rfl:N=j:=by omega
     obtain rfl:CV=true:=by rw [←HCV.out];have h9:=HCS.out;rw [List.take_of_length_le (by rw [HN.out];exact Nat.le_refl _)] at h9;exact h9
     have cE_0:=(CR.out.rd 0 rfl) 0 _ rfl
     have cE_1:=(CR.out.rd 0 rfl) 1 _ rfl
     have cE_2:=(CR.out.rd 0 rfl) 2 _ rfl
     have cE_3:=(CR.out.rd 0 rfl) 3 _ rfl
     have cE_4:=(CR.out.rd 0 rfl) 4 _ rfl
     have cE_5:=(CR.out.rd 0 rfl) 5 _ rfl
     go_wp2_with fail
     go_ret
     exact⟨rfl,CR.out.gr.fresh⟩
  by_cases h9:k=9
  ·subst h9
   clear h0 h1 h3 h8
   have HCV:Hid (Co.covs l=CV):=zh (by rw [←hCV,if_neg (by decide),if_neg (by decide),if_pos (by decide)])
   clear hCV
   obtain⟨E,w6,HX,HW,C6⟩:=C0.out.boxO #[.int .i64 9,.int .i64 o,.int .i64 i,.string nm,.bool at_,.slice p N c] 37
   go_enter Tryz.func20,Tryz.ntmps20
   go_upto_region 1 with fail
   rw [←HX.out,←HW.out]
   clear HX HW C0
   have cE_0:=(C6.out.rd 0 rfl) 0 _ rfl
   have cE_1:=(C6.out.rd 0 rfl) 1 _ rfl
   have cE_2:=(C6.out.rd 0 rfl) 2 _ rfl
   have cE_3:=(C6.out.rd 0 rfl) 3 _ rfl
   have cE_4:=(C6.out.rd 0 rfl) 4 _ rfl
   have cE_5:=(C6.out.rd 0 rfl) 5 _ rfl
   go_wp2_with fail
   clear cE_0 cE_1 cE_2 cE_3 cE_4 cE_5
   go_loopg [3] N (fun gg s3 wr=>∃j:Nat,s3= .int .i64 j∧j≤N∧gg=N -j∧Hid (Co.covs (l.take j)=true)∧Hid (Mo w [RB E #[.int .i64 9,.int .i64 o,.int .i64 i,.string nm,.bool at_,.slice p N c],RE (.slice p N c) l] wr))
   case atStart=>exact ⟨0,rfl,Nat.zero_le _,rfl,zh (by rw [List.take_zero,Co.covs]),C6⟩
   case round=>
    clear C6
    obtain⟨j,rfl,hj,rfl,HCS,CR⟩:=hrel
    by_cases hlt:j<N
    ·obtain⟨x,hx⟩:∃x,l[j]? =some x:=⟨_,List.getElem?_eq_getElem (by rw [HN.out];exact hlt)⟩
     obtain⟨b,oo,aa,hpe,hbl,⟨x0,x1,x2,x3,x4,x5⟩,hbx,hsx⟩:=SlE.get (CR.out.rd 1 rfl) hx
     subst hpe
     obtain⟨px,cx,rfl,_⟩:=hsx.form
     obtain⟨NX,hNX⟩:∃q,x.args.length=q:=⟨_,rfl⟩
     rw [hNX] at x5 hsx
     clear hNX
     have hk:=IH.out x (.slice px NX cx) wr (HD.out j x hx) hbx hsx
     unfold exprV at hk
     have HK:=zh hk
     have HX:=zh hx
     have b0j:(0:Int)≤(j:Int):=by omega
     have b3j:(j:Int)<(N:Int):=by omega
     clear hk hbx hsx hx
     have cE_0:=(CR.out.rd 0 rfl) 0 _ rfl
     have cE_1:=(CR.out.rd 0 rfl) 1 _ rfl
     have cE_2:=(CR.out.rd 0 rfl) 2 _ rfl
     have cE_3:=(CR.out.rd 0 rfl) 3 _ rfl
     have cE_4:=(CR.out.rd 0 rfl) 4 _ rfl
     have cE_5:=(CR.out.rd 0 rfl) 5 _ rfl
     go_wp2_with fail
     clear cE_0 cE_1 cE_2 cE_3 cE_4 cE_5
     clear x0 x1 x2 x3 x4 x5 hbl
     refine HK.out.mono ?_
     rintro e w9 ⟨rfl,hb9⟩
     have C9:=zh (Mz.below CR.out hb9)
     clear hb9 CR HK
     cases hcx:Co.cov x
     ·obtain rfl:CV=false:=by rw [←HCV.out];exact zE1 (List.mem_of_getElem? HX.out) hcx
      clear hcx
      go_wp2_with fail
      go_ret
      exact⟨rfl,C9.out.gr.fresh⟩
     ·have HNX:Hid (Co.covs (l.take (j+1))=true):=zh (zG5 HX.out HCS.out hcx)
      clear hcx
      go_wp2_with fail
      go_roundg (N -(j+1))
      case measure=>omega
      case rel=>exact ⟨j+1,by go_num,by omega,rfl,HNX,C9⟩
    ·obtain rfl:N=j:=by omega
     obtain rfl:CV=true:=by rw [←HCV.out];have h9:=HCS.out;rw [List.take_of_length_le (by rw [HN.out];exact Nat.le_refl _)] at h9;exact h9
     have cE_0:=(CR.out.rd 0 rfl) 0 _ rfl
     have cE_1:=(CR.out.rd 0 rfl) 1 _ rfl
     have cE_2:=(CR.out.rd 0 rfl) 2 _ rfl
     have cE_3:=(CR.out.rd 0 rfl) 3 _ rfl
     have cE_4:=(CR.out.rd 0 rfl) 4 _ rfl
     have cE_5:=(CR.out.rd 0 rfl) 5 _ rfl
     go_wp2_with fail
     go_ret
     exact⟨rfl,CR.out.gr.fresh⟩
  by_cases h10:k=10
  ·subst h10
   clear h0 h1 h3 h8 h9
   have HCV:Hid (Co.covs l=CV):=zh (by rw [←hCV,if_neg (by decide),if_neg (by decide),if_pos (by decide)])
   clear hCV
   obtain⟨E,w7,HX,HW,C7⟩:=C0.out.boxO #[.int .i64 10,.int .i64 o,.int .i64 i,.string nm,.bool at_,.slice p N c] 37
   go_enter Tryz.func20,Tryz.ntmps20
   go_upto_region 1 with fail
   rw [←HX.out,←HW.out]
   clear HX HW C0
   have cE_0:=(C7.out.rd 0 rfl) 0 _ rfl
   have cE_1:=(C7.out.rd 0 rfl) 1 _ rfl
   have cE_2:=(C7.out.rd 0 rfl) 2 _ rfl
   have cE_3:=(C7.out.rd 0 rfl) 3 _ rfl
   have cE_4:=(C7.out.rd 0 rfl) 4 _ rfl
   have cE_5:=(C7.out.rd 0 rfl) 5 _ rfl
   go_wp2_with fail
   clear cE_0 cE_1 cE_2 cE_3 cE_4 cE_5
   go_loopg [3] N (fun gg s3 wr=>∃j:Nat,s3= .int .i64 j∧j≤N∧gg=N -j∧Hid (Co.covs (l.take j)=true)∧Hid (Mo w [RB E #[.int .i64 10,.int .i64 o,.int .i64 i,.string nm,.bool at_,.slice p N c],RE (.slice p N c) l] wr))
   case atStart=>exact ⟨0,rfl,Nat.zero_le _,rfl,zh (by rw [List.take_zero,Co.covs]),C7⟩
   case round=>
    clear C7
    obtain⟨j,rfl,hj,rfl,HCS,CR⟩:=hrel
    by_cases hlt:j<N
    ·obtain⟨x,hx⟩:∃x,l[j]? =some x:=⟨_,List.getElem?_eq_getElem (by rw [HN.out];exact hlt)⟩
     obtain⟨b,oo,aa,hpe,hbl,⟨x0,x1,x2,x3,x4,x5⟩,hbx,hsx⟩:=SlE.get (CR.out.rd 1 rfl) hx
     subst hpe
     obtain⟨px,cx,rfl,_⟩:=hsx.form
     obtain⟨NX,hNX⟩:∃q,x.args.length=q:=⟨_,rfl⟩
     rw [hNX] at x5 hsx
     clear hNX
     have hk:=IH.out x (.slice px NX cx) wr (HD.out j x hx) hbx hsx
     unfold exprV at hk
     have HK:=zh hk
     have HX:=zh hx
     have b0j:(0:Int)≤(j:Int):=by omega
     have b3j:(j:Int)<(N:Int):=by omega
     clear hk hbx hsx hx
     have cE_0:=(CR.out.rd 0 rfl) 0 _ rfl
     have cE_1:=(CR.out.rd 0 rfl) 1 _ rfl
     have cE_2:=(CR.out.rd 0 rfl) 2 _ rfl
     have cE_3:=(CR.out.rd 0 rfl) 3 _ rfl
     have cE_4:=(CR.out.rd 0 rfl) 4 _ rfl
     have cE_5:=(CR.out.rd 0 rfl) 5 _ rfl
     go_wp2_with fail
     clear cE_0 cE_1 cE_2 cE_3 cE_4 cE_5
     clear x0 x1 x2 x3 x4 x5 hbl
     refine HK.out.mono ?_
     rintro e w9 ⟨rfl,hb9⟩
     have C9:=zh (Mz.below CR.out hb9)
     clear hb9 CR HK
     cases hcx:Co.cov x
     ·obtain rfl:CV=false:=by rw [←HCV.out];exact zE1 (List.mem_of_getElem? HX.out) hcx
      clear hcx
      go_wp2_with fail
      go_ret
      exact⟨rfl,C9.out.gr.fresh⟩
     ·have HNX:Hid (Co.covs (l.take (j+1))=true):=zh (zG5 HX.out HCS.out hcx)
      clear hcx
      go_wp2_with fail
      go_roundg (N -(j+1))
      case measure=>omega
      case rel=>exact ⟨j+1,by go_num,by omega,rfl,HNX,C9⟩
    ·obtain rfl:N=j:=by omega
     obtain rfl:CV=true:=by rw [←HCV.out];have h9:=HCS.out;rw [List.take_of_length_le (by rw [HN.out];exact Nat.le_refl _)] at h9;exact h9
     have cE_0:=(CR.out.rd 0 rfl) 0 _ rfl
     have cE_1:=(CR.out.rd 0 rfl) 1 _ rfl
     have cE_2:=(CR.out.rd 0 rfl) 2 _ rfl
     have cE_3:=(CR.out.rd 0 rfl) 3 _ rfl
     have cE_4:=(CR.out.rd 0 rfl) 4 _ rfl
     have cE_5:=(CR.out.rd 0 rfl) 5 _ rfl
     go_wp2_with fail
     go_ret
     exact⟨rfl,CR.out.gr.fresh⟩
  obtain rfl:CV=false:=by rw [←hCV,if_neg (by omega),if_neg h3,if_neg (by omega)]
  clear hCV
  have hb0:(k == 0)=false:=beq_eq_false_iff_ne.2 h0
  have hb1:(k == 1)=false:=beq_eq_false_iff_ne.2 h1
  have hb3:(k == 3)=false:=beq_eq_false_iff_ne.2 h3
  have hb8:(k == 8)=false:=beq_eq_false_iff_ne.2 h8
  have hb9:(k == 9)=false:=beq_eq_false_iff_ne.2 h9
  have hb10:(k == 10)=false:=beq_eq_false_iff_ne.2 h10
  clear h0 h1 h3 h8 h9 h10
  obtain⟨E,w8,HX,HW,C8⟩:=C0.out.boxO #[.int .i64 k,.int .i64 o,.int .i64 i,.string nm,.bool at_,.slice p N c] 37
  go_enter Tryz.func20,Tryz.ntmps20
  go_upto_region 1 with fail
  rw [←HX.out,←HW.out]
  clear HX HW C0
  have cE_0:=(C8.out.rd 0 rfl) 0 _ rfl
  have cE_1:=(C8.out.rd 0 rfl) 1 _ rfl
  have cE_2:=(C8.out.rd 0 rfl) 2 _ rfl
  have cE_3:=(C8.out.rd 0 rfl) 3 _ rfl
  have cE_4:=(C8.out.rd 0 rfl) 4 _ rfl
  have cE_5:=(C8.out.rd 0 rfl) 5 _ rfl
  go_wp2_with fail
  clear cE_0 cE_1 cE_2 cE_3 cE_4 cE_5
  go_ret
  exact⟨rfl,C8.out.gr.fresh⟩
end Cw
end Go.Proofs.YtcnmfcgmnkncaaaGreatDoor
