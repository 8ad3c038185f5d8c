/-
  refmeshref41.sameTexts, SameMethod at equal methods, walked.
-/
import Derived.Test.YtcnmfcgmnkncaaaGreatDoorX29
set_option maxRecDepth 100000
set_option maxHeartbeats 40000000
open Go.Proofs.Tryz
namespace Go.Proofs.YtcnmfcgmnkncaaaGreatDoor
namespace Cw
open Go.RowKit Go.Maps Pw
theorem zK8 (l:List BA) (p1 p2:Option Addr) (N c1 c2:Nat) (w:World) (hN:l.length=N) (h1:SlStr w (.slice p1 N c1) l) (h2:SlStr w (.slice p2 N c2) l):
 Calls prog 38 #[.slice p1 N c1,.slice p2 N c2] w fun e w'=>e= .returned (.bool true)/\Below w.heap.size w w':=by
 have hlm:=h1.len;unfold maxLen at hlm;rw [hN] at hlm;have HN:=zh hN;have C0:=zh (Mo.add (Mo.add (Mo.start w) (r:=RN (.slice p2 N c2) l) rn_mn h2) (r:=RN (.slice p1 N c1) l) rn_mn h1);clear h1 h2 hN;go_in;go_wp2
 go_loopg [5] N (fun gg s5 wr=>∃j:Nat,s5= .int .i64 j/\j<=N/\gg=N -j/\Hid (Mz 0 0 w [] (fun _=>True) [] [] [RN (.slice p1 N c1) l,RN (.slice p2 N c2) l] wr))
 case atStart=>exact ⟨0,rfl,kO _,rfl,C0⟩
 case round=>
  clear C0;obtain⟨j,rfl,hj,hgg,CR⟩:=hrel;obtain⟨w_,hw_⟩:∃q,q=wr:=⟨_,rfl⟩;rw [<-hw_] at CR |-;clear hw_;by_cases hlt:j<N
  ·obtain⟨x,hx⟩:∃x,l[j]? =some x:=⟨_,kB (by rw [HN.out];exact hlt)⟩;obtain⟨b6,o6,hp6,hl6,ha6⟩:=SlStr.get (CR.rd 0 rfl) hx;obtain⟨b7,o7,hp7,hl7,ha7⟩:=SlStr.get (CR.rd 1 rfl) hx;subst hp6 hp7;have hne:(x.toList != x.toList)=false:=(by simp);have CQ:=zh (Mo.add (Mo.add CR (r:=A0 b7 (o7+j) (.string x)) mnA0 ha7) (r:=A0 b6 (o6+j) (.string x)) mnA0 ha6);clear CR ha6 ha7 hx hl6 hl7;have hj0:(0:Int)<=(j:Int):=(by omega);have hj1:(j:Int)<(N:Int):=(by omega);go_upto_region 6 with fail;obtain⟨w1,HW,C1⟩:=CQ.drewE;refine wp_region_held_drew (S:=fun W=>A0 b6 (o6+j) (.string x) W/\A0 b7 (o7+j) (.string x) W) (by kernel_rfl) (by rw [<-HW.out];exact⟨(C1.rd 0 rfl),(C1.rd 1 rfl)⟩) (fun hH=>?_);rw [<-HW.out] at hH |-;clear HW CQ;refine rU 0 (some 17) ?_;refine rU 1 (some 18) ?_;refine rU 2 (some 19) ?_;refine rU 3 (some 20) ?_;refine rU 4 (some 21) ?_;refine rU 5 (some 22) ?_;refine rU 6 (some 23) ?_;refine rU 7 (some 24) ?_;refine rU 8 (some 25) ?_;refine wpAnyH_done (by kernel_rfl) ?_ _;clear hH;go_wp2;go_roundg (N -(j+1))
   case measure=>omega
   case rel=>exact ⟨j+1,by go_num,by omega,rfl,zh (C1.ot.ot)⟩
  ·obtain rfl:N=j:=by omega
   go_wp2;go_ret;exact⟨rfl,CR.gr.fresh⟩
theorem zFG (nm:BA) (pa_ lo:Int) (code:List Co.Ins) (names:List BA) (v1 v2 u1 u2:Value) (w:World) (hc1:SlI w v1 code) (hc2:SlI w v2 code) (hn1:SlStr w u1 names) (hn2:SlStr w u2 names):
 Calls prog 27 #[.agg #[.string nm,.int .i64 pa_,.int .i64 lo,v1,u1],.agg #[.string nm,.int .i64 pa_,.int .i64 lo,v2,u2]] w fun e w'=>e= .returned (.bool true)/\Below w.heap.size w w':=by
 have hlm:=hc1.len;unfold maxLen at hlm;obtain⟨pa,ca,rfl,_⟩:=hc1.form;obtain⟨pb,cb,rfl,_⟩:=hc2.form;have hn3:=hn1;have hn4:=hn2;obtain⟨pc,cc,rfl,_⟩:=hn3;obtain⟨pd,cd,rfl,_⟩:=hn4;obtain⟨IN,hIN⟩:∃q,code.length=q:=⟨_,rfl⟩;obtain⟨NN,hNN⟩:∃q,names.length=q:=⟨_,rfl⟩;rw [hIN] at hc1 hc2 hlm |-;rw [hNN] at hn1 hn2 |-;have HIN:=zh hIN;have HNN:=zh hNN;have C0:=zh (Mo.add (Mo.add (Mo.add (Mo.add (Mo.start w) (r:=RN (.slice pd NN cd) names) rn_mn hn2) (r:=RN (.slice pc NN cc) names) rn_mn hn1) (r:=RI (.slice pb IN cb) code) ri_mn hc2) (r:=RI (.slice pa IN ca) code) ri_mn hc1);clear hc1 hc2 hn1 hn2 hIN hNN;obtain⟨X,w2,HX1,HW1,hx1,C2⟩:=C0.boxE #[.string nm,.int .i64 pa_,.int .i64 lo,.slice pa IN ca,.slice pc NN cc] 59;obtain⟨Y,w3,HX2,HW2,hx2,C3⟩:=C2.boxE #[.string nm,.int .i64 pa_,.int .i64 lo,.slice pb IN cb,.slice pd NN cd] 59;have HYX:Hid (Y=X+1):=zh (by rw [HX2.out,HW1.out,HX1.out];simp);go_in;go_upto_region 1 with fail;rw [<-HX1.out,<-HW1.out,<-HYX.out,<-HW2.out];clear HX1 HW1 HX2 HW2 HYX C0 C2;have CA:=zh (Mz.foldA5 C3);have CB:=zh (Mz.foldA5 CA);clear C3 CA;have hne:(nm.toList != nm.toList)=false:=by simp
 have qX:=(CB.rd 0 rfl);have qY:=(CB.rd 1 rfl);go_wp2_with fail;clear qX qY;have hk:=zK8 names pc pd NN cc cd w3 HNN (CB.rd 4 rfl) (CB.rd 5 rfl);refine hk.mono ?_;clear hk;rintro e w4 ⟨rfl,hb9⟩;have C4:=zh (Mz.below CB hb9);clear hb9 CB;have qX:=(C4.rd 0 rfl);have qY:=(C4.rd 1 rfl);go_wp2_with fail;clear qX qY;clear hne
 go_loopg [5] IN (fun gg s5 wr=>∃j:Nat,s5= .int .i64 j/\j<=IN/\gg=IN -j/\Hid (Mz 0 0 w [] (fun _=>True) [] [] [A5 X (.string nm) (.int .i64 pa_) (.int .i64 lo) (.slice pa IN ca) (.slice pc NN cc),A5 Y (.string nm) (.int .i64 pa_) (.int .i64 lo) (.slice pb IN cb) (.slice pd NN cd),RI (.slice pa IN ca) code,RI (.slice pb IN cb) code,RN (.slice pc NN cc) names,RN (.slice pd NN cd) names] wr))
 case atStart=>exact ⟨0,rfl,kO _,rfl,C4⟩
 case round=>
  clear C4;obtain⟨j,rfl,hj,hgg,CR⟩:=hrel;obtain⟨w_,hw_⟩:∃q,q=wr:=⟨_,rfl⟩;rw [<-hw_] at CR |-;clear hw_;by_cases hlt:j<IN
  ·obtain⟨x,hx⟩:∃x,code[j]? =some x:=⟨_,kB (by rw [HIN.out];exact hlt)⟩;obtain⟨xo,xa,xb⟩:=x;obtain⟨b6,o6,hp6,hl6,ha0,ha1,ha2⟩:=SlI.get (CR.rd 2 rfl) hx;obtain⟨b7,o7,hp7,hl7,hb0,hb1,hb2⟩:=SlI.get (CR.rd 3 rfl) hx;subst hp6 hp7;dsimp only at ha0 ha1 ha2 hb0 hb1 hb2;have CQ:=zh (Mo.add (Mo.add CR (r:=B3 b7 (o7+j*3) (.int .i64 xo) (.int .i64 xa) (.int .i64 xb)) mnB3 ⟨hb0,hb1,hb2⟩) (r:=B3 b6 (o6+j*3) (.int .i64 xo) (.int .i64 xa) (.int .i64 xb)) mnB3 ⟨ha0,ha1,ha2⟩);clear CR ha0 ha1 ha2 hb0 hb1 hb2 hx hl6 hl7;have hj0:(0:Int)<=(j:Int):=(by omega);have hj1:(j:Int)<(IN:Int):=(by omega);have qX:=(CQ.rd 2 rfl);go_upto_region 6 with fail;clear qX;obtain⟨w5,HW,C5⟩:=CQ.drewE;refine wp_region_held_drew (S:=fun W=>A5 X (.string nm) (.int .i64 pa_) (.int .i64 lo) (.slice (some ⟨b6,o6,none⟩) IN ca) (.slice pc NN cc) W/\A5 Y (.string nm) (.int .i64 pa_) (.int .i64 lo) (.slice (some ⟨b7,o7,none⟩) IN cb) (.slice pd NN cd) W/\B3 b6 (o6+j*3) (.int .i64 xo) (.int .i64 xa) (.int .i64 xb) W/\B3 b7 (o7+j*3) (.int .i64 xo) (.int .i64 xa) (.int .i64 xb) W) (by kernel_rfl) (by rw [<-HW.out];exact⟨(C5.rd 2 rfl),(C5.rd 3 rfl),(C5.rd 0 rfl),(C5.rd 1 rfl)⟩) (fun hH=>?_);rw [<-HW.out] at hH |-;clear HW CQ;refine rU 0 (some 49) ?_;refine rU 1 (some 50) ?_;refine rU 2 (some 51) ?_;refine rU 3 (some 52) ?_;refine rU 4 (some 53) ?_;refine rU 5 (some 54) ?_;refine rU 6 (some 55) ?_;refine rU 7 (some 56) ?_;refine rU 8 (some 57) ?_;refine rU 9 (some 58) ?_;refine rU 10 (some 59) ?_;refine wpAnyH_done (by kernel_rfl) ?_ _;clear hH;go_wp2;go_roundg (IN -(j+1))
   case measure=>omega
   case rel=>exact ⟨j+1,by go_num,by omega,rfl,zh (C5.ot.ot)⟩
  ·obtain rfl:IN=j:=by omega
   have qX:=(CR.rd 0 rfl);go_wp2_with fail;clear qX;go_ret;exact⟨rfl,CR.gr.fresh⟩
end Cw
end Go.Proofs.YtcnmfcgmnkncaaaGreatDoor
