/-
  The reference's has, twice and Lets, walked.
-/
import Derived.Test.YtcnmfcgmnkncaaaGreatDoorX18
set_option maxRecDepth 100000
set_option maxHeartbeats 40000000
open Go.Proofs.Tryz
namespace Go.Proofs.YtcnmfcgmnkncaaaGreatDoor
open Go.RowKit
theorem quietB {w0 w:World} {q:Nat} (h:Below w0.heap.size w0 w):Below w0.heap.size w0 (w.drewN q):=⟨h.os,h.tape,h.output,h.size,h.block⟩
theorem zTV {l:List BA} {j:Nat} {x s:BA} (hj:l[j]? =some x) (hx:decide (x=s)=true):Ck.hasS l s=true:=by
 unfold Ck.hasS;exact List.any_eq_true.2 ⟨x,kM hj,hx⟩
theorem zVB {l:List BA} {s:BA} {n:Nat} (hn:l.length=n) (h:∀t x,t<n->l[t]? =some x->decide (x=s)=false):Ck.hasS l s=false:=by
 unfold Ck.hasS;rw [List.any_eq_false];intro x hx;obtain⟨t,ht,rfl⟩:=List.getElem_of_mem hx;rw [h t _ (by omega) (kB ht)];exact Bool.false_ne_true
theorem zN4 (l r:List BA) (s:BA):Ck.hasS (l++r) s=(Ck.hasS l s||Ck.hasS r s):=by unfold Ck.hasS;rw [List.any_append]
theorem zOP (l:List BA) (x:BA):Ck.twice (l++ [x])=(Ck.twice l||Ck.hasS l x):=by
 induction l with
 |nil=>rfl
 |cons y r ih=>
  rw [List.cons_append,Ck.twice,Ck.twice,ih,zN4];have e:Ck.hasS [x] y=decide (y=x):=by unfold Ck.hasS;simp [eq_comm]
  have e2:Ck.hasS (y::r) x=(decide (y=x)||Ck.hasS r x):=rfl;rw [e,e2];cases Ck.hasS r y<;>cases decide (y=x)<;>cases Ck.twice r<;>cases Ck.hasS r x<;>rfl
theorem zP6 (l r:List BA) (h:Ck.twice l=true):Ck.twice (l++r)=true:=by
 induction l with
 |nil=>cases h
 |cons y q ih=>
  rw [Ck.twice,Bool.or_eq_true] at h;rw [List.cons_append,Ck.twice,Bool.or_eq_true,zN4,Bool.or_eq_true];rcases h with h|h
  ·exact .inl (.inl h)
  ·exact .inr (ih h)
theorem zOO {l:List BA} {k:Nat} (h:Ck.twice (l.take k)=true):Ck.twice l=true:=by
 have:=zP6 _ (l.drop k) h;rw [List.take_append_drop] at this;exact this
theorem SlStr.take {w:World} {p:Option Addr} {n c:Nat} {l:List BA} (h:SlStr w (.slice p n c) l) {k:Nat} (hk:k<=l.length):SlStr w (.slice p k c) (l.take k):=by
 obtain⟨p',c',e,hl,hn,hx⟩:=h;cases e;refine⟨p,c,by rw [List.length_take,Nat.min_eq_left hk],by rw [List.length_take];omega,fun hne=>?_,fun j s hj=>?_⟩
 ·have:l≠ []:=by rintro rfl;simp at hne
  have:=hn this;rw [List.length_take];omega
 ·have hlt:j<k:=by have:=(kJ.1 hj).1;rw [List.length_take] at this;omega
  rw [List.getElem?_take_of_lt hlt] at hj;exact hx j s hj
theorem zF9 (s:BA) (v:Value) (l:List BA) (w:World) (h:SlStr w v l):
 Calls prog 139 #[v,.string s] w fun e w'=>e= .returned (.bool (Ck.hasS l s))/\w'=w:=by
 obtain⟨p,c,rfl,hl,hn,hx⟩:=h;unfold maxLen at hl;obtain⟨N,hN⟩:∃N,l.length=N:=⟨_,rfl⟩;rw [hN] at hl |-;have HX:=zh hx;have HN:=zh hN;clear hx hn hN;go_in;go_wp2
 go_loop [5] (fun s5=>∃j:Nat,s5= .int .i64 j/\j<=N/\(∀t x,t<j->l[t]? =some x->decide (x=s)=false)) (fun s5=>N -(intOf s5).toNat)
 case atStart=>exact ⟨0,rfl,kO _,fun t x ht=>by omega⟩
 case round=>
  obtain⟨j,rfl,hj,hall⟩:=hrel;have HA:=zh hall;clear hall;by_cases hlt:j<N
  ·obtain⟨x,hjx⟩:∃x,l[j]? =some x:=⟨_,kB (by rw [HN.out];exact hlt)⟩;obtain⟨_,b,o,rfl,_,hc⟩:=HX j x hjx;have HJ:=zh hjx;clear hjx;cases hv:decide (x=s)
   ·have hq:(x.toList == s.toList)=false:=by rw [zAF,hv]
    have HV:=zh hv;clear hv;go_wp2_with fail;go_round
    case rel=>
     refine⟨j+1,by go_num,by omega,fun t y ht hty=>?_⟩;by_cases e:t=j
     ·subst e;rw [HJ.out] at hty;cases hty;exact HV
     ·exact HA t y (by omega) hty
    case measure=>simp [intOf];omega
   ·have hq:(x.toList == s.toList)=true:=by rw [zAF,hv]
    have hf:Hid (Ck.hasS l s=true):=zTV HJ hv;clear hv;go_wp2;go_ret;exact⟨by rw [hf.out];rfl,rfl⟩
  ·have hf:Hid (Ck.hasS l s=false):=zVB (n:=N) HN (fun t x ht=>HA t x (by omega));go_wp2;go_ret;exact⟨by rw [hf.out];rfl,rfl⟩
theorem zIX (v:Value) (l:List BA) (w:World) (h:SlStr w v l):
 Calls prog 95 #[v] w fun e w'=>e= .returned (.bool (Ck.twice l))/\Below w.heap.size w w':=by
 have HS:=zh h;obtain⟨p,c,rfl,hl,hn,hx⟩:=h;unfold maxLen at hl;obtain⟨N,hN⟩:∃N,l.length=N:=⟨_,rfl⟩;rw [hN] at hl HS |-;have HX:=zh hx;have HN:=zh hN;have hn2:0<N->N<=c/\c<=9223372036854775807:=fun h0=>by
  have:=hn (by rintro rfl;simp at hN;omega);unfold maxLen at this;rw [hN] at this;exact this
 clear hx hn hN;go_in;go_wp2
 go_loopw [3] (fun s3 wr=>∃j:Nat,s3= .int .i64 j/\j<=N/\Hid (Ck.twice (l.take j)=false)/\Hid (Below w.heap.size w wr)) (fun s3 _=>N -(intOf s3).toNat)
 case atStart=>exact ⟨0,rfl,kO _,zh (by rw [List.take_zero];rfl),zh (Below.refl _ _)⟩
 case round=>
  obtain⟨j,rfl,hj,HA,HBR⟩:=hrel;by_cases hlt:j<N
  ·obtain⟨x,hjx⟩:∃x,l[j]? =some x:=⟨_,kB (by rw [HN.out];exact hlt)⟩;obtain⟨_,b,o,rfl,_,hc0⟩:=HX j x hjx;have hc:=zA HBR hc0;obtain⟨hnc,hcm⟩:=hn2 (by omega);have hsn:=zOP (l.take j) x;rw [<-zA3 hjx,HA.out,Bool.false_or] at hsn;have HSN:=zh hsn;have HK:=zh fun (W:World) (hb:Below wr.heap.size wr W)=>zF9 x _ (l.take j) W (((HS.take (by rw [HN.out];exact hj)).keep HBR).keep hb)
   have b1:(0:Int)<=(j:Int):=(by omega);have b2:(j:Int)<=(c:Int):=(by omega);have b3:(j:Int)<(N:Int):=(by omega);clear hc0 hjx hsn hn2;cases hv:Ck.hasS (l.take j) x
   ·rw [hv] at HK HSN;clear hv;go_wp2_with fail
    go_quiet ((go_at_call 139;exact Calls.quiet_of_same (HK _ (by first|exact Below.refl _ _|exact (Below.refl _ _).drew|exact (Below.refl _ _).drew.drew|exact quietB (Below.refl _ _)))))
    go_wp2_with fail;go_roundw
    case rel=>exact ⟨j+1,by go_num,by omega,HSN,zh (quietB HBR)⟩
    case measure=>simp [intOf];omega
   ·rw [hv] at HK HSN;have hf:Hid (Ck.twice l=true):=zOO HSN;clear hv;go_wp2_with fail
    go_quiet ((go_at_call 139;exact Calls.quiet_of_same (HK _ (by first|exact Below.refl _ _|exact (Below.refl _ _).drew|exact (Below.refl _ _).drew.drew|exact quietB (Below.refl _ _)))))
    go_wp2;go_ret;exact⟨by rw [hf.out];rfl,quietB HBR⟩
  ·have hf:Hid (Ck.twice l=false):=by
    have:=HA.out;rw [kR (by rw [HN.out];omega)] at this;exact this
   go_wp2;go_ret;exact⟨by rw [hf.out];rfl,HBR⟩
theorem zJB {B o o2:Nat} {u v:Value} {wb w0 w':World} (h:w0.cell? ⟨B,o,none⟩=some u/\w0.cell? ⟨B,o2,none⟩=some v/\Hid (Below wb.heap.size wb w0)) (hb:Below w0.heap.size w0 w'):
 w'.cell? ⟨B,o,none⟩=some u/\w'.cell? ⟨B,o2,none⟩=some v/\Hid (Below wb.heap.size wb w'):=⟨zA hb h.1,zA hb h.2.1,zC h.2.2 hb⟩
theorem zQ9:∀(d:Nat) (l:List Tr.S) (v:Value) (w:World),Tr.S.deep.deeps l<=d->SlS w v l->Ck.lets l<=1000000->
 Calls prog 24 #[v] w fun e w'=>e= .returned (.int .i64 (Ck.lets l))/\Below w.heap.size w w':=by
 intro d
 induction d using Nat.strongRecOn with
 |ind d ih=>
  intro l v w hd h hbd;obtain⟨p,c,rfl,hcap⟩:=h.form;have hll:=h.len;unfold maxLen at hll;obtain⟨N,hN⟩:∃N,l.length=N:=⟨_,rfl⟩;rw [hN] at h hll |-;have HS:=zh h;have HN:=zh hN;have HIH:=zh ih;have HD:=zh hd;have HBD:=zh hbd;clear h hN ih hd hbd hcap;go_in;go_wp2
  go_loopw [3,4] (fun s3 s8 wr=>∃k m:Nat,s8= .int .i64 k/\k<=N/\s3= .int .i64 m/\m=Ck.lets (l.take k)/\Below w.heap.size w wr) (fun _ s8 _=>N -(intOf s8).toNat)
  case atStart=>exact ⟨0,0,rfl,kO _,rfl,by simp [Ck.lets],Below.refl _ _⟩
  case round=>
   obtain⟨k,m,rfl,hk,rfl,hm,hbr⟩:=hrel;have HM:=zh hm;have HBR:=zh hbr;by_cases hlt:k<N
   ·obtain⟨x,hx⟩:∃x,l[k]? =some x:=⟨_,kB (by rw [HN.out];exact hlt)⟩;obtain⟨b,oo,vx,vy,vz,rfl,hblt,hc,hbd,hsx,hsy,hsz⟩:=(HS.keep hbr).get hx;obtain⟨x0,x1,x2,x3,x4⟩:=hc;obtain⟨py,cy,rfl,_⟩:=hsy.form;obtain⟨pz,cz,rfl,_⟩:=hsz.form;have hnext:=zFR hx;have htk:=zCW l (k+1);have hle:=HBD.out;obtain⟨dp1,dp2,dp3⟩:=Tr.S.deep_in HD hx;obtain⟨y,hy⟩:∃y,Ck.lets x.body=y:=⟨_,rfl⟩;obtain⟨z,hz⟩:∃y,Ck.lets x.els=y:=⟨_,rfl⟩;rw [hy,hz] at hnext;have K1:Hid (∀W,Below wr.heap.size wr W->Calls prog 24 #[.slice py x.body.length cy] W fun e w'=>e= .returned (.int .i64 y)/\Below W.heap.size W w'):=fun W hb=>hy▸HIH (d -1) (by omega) x.body _ W dp2 (hsy.keep hb) (by omega)
    have K2:Hid (∀W,Below wr.heap.size wr W->Calls prog 24 #[.slice pz x.els.length cz] W fun e w'=>e= .returned (.int .i64 z)/\Below W.heap.size W w'):=fun W hb=>hz▸HIH (d -1) (by omega) x.els _ W dp3 (hsz.keep hb) (by omega)
    have hbd2:m+(y+z)+1<=1000001:=by rw [hnext,<-hm] at htk;split at htk<;>omega
    by_cases hk0:x.kind=0
    ·have hk1:(x.kind == 0)=true:=kX.2 hk0;have HNX:=zh (show Ck.lets (l.take (k+1))=Ck.lets (l.take k)+(1+y+z) by rw [hnext,kD hk0]);have hbd3:m+(y+z)+1<=1000000:=by rw [hnext,<-hm,kD hk0] at htk;omega
     clear hx hbr hsx hsy hsz hbd hnext htk hle dp1 dp2 dp3 hk0 hy hz hm;have hs1:IntKind.i64.wrap ((m:Int)+1+(y:Int))=(m:Int)+1+(y:Int):=IntWalk.i64_in _ (by omega);have hs2:IntKind.i64.wrap ((m:Int)+1+(y:Int)+(z:Int))=(m:Int)+1+(y:Int)+(z:Int):=IntWalk.i64_in _ (by omega);have b1:(0:Int)<=(k:Int):=(by omega);have b3:(k:Int)<(N:Int):=(by omega);go_wp2_with fail;clear hbd2 hbd3
     go_region_held3 (fun w'=>w'.cell? ⟨b,oo+k*5+3,none⟩=some (.slice py x.body.length cy)/\w'.cell? ⟨b,oo+k*5+4,none⟩=some (.slice pz x.els.length cz)/\Hid (Below wr.heap.size wr w')) (first|exact zJB (by assumption) hb|exact ⟨x3,x4,zh (Below.refl _ _)⟩|exact ⟨x3,x4,zh (Below.refl _ _).drew⟩|go_keep) (first|(go_at_call 24;(with_reducible refine(K1.out _ (zA5 (by assumption))).mono ?_);rintro e w' ⟨rfl,hb⟩)|(go_at_call 24;(with_reducible refine(K2.out _ (zA5 (by assumption))).mono ?_);rintro e w' ⟨rfl,hb⟩))
     all_goals
      have hbf:=zA5 (by assumption);clear hs1 hs2;go_wp2_with fail;go_roundw
      case rel=>exact ⟨k+1,m+1+y+z,by go_num,by omega,by go_num,by rw [HNX.out,<-HM.out];omega,zC HBR hbf⟩
      case measure=>simp [intOf];omega
    ·have hk1:(x.kind == 0)=false:=kA.2 hk0;have HNX:=zh (show Ck.lets (l.take (k+1))=Ck.lets (l.take k)+(0+y+z) by rw [hnext,kC hk0]);clear hx hbr hsx hsy hsz hbd hnext htk hle dp1 dp2 dp3 hk0 hy hz hm;have hs1:IntKind.i64.wrap ((m:Int)+(y:Int))=(m:Int)+(y:Int):=IntWalk.i64_in _ (by omega);have hs2:IntKind.i64.wrap ((m:Int)+(y:Int)+(z:Int))=(m:Int)+(y:Int)+(z:Int):=IntWalk.i64_in _ (by omega);have b1:(0:Int)<=(k:Int):=(by omega);have b3:(k:Int)<(N:Int):=(by omega);go_wp2_with fail;clear hbd2
     go_region_held3 (fun w'=>w'.cell? ⟨b,oo+k*5+3,none⟩=some (.slice py x.body.length cy)/\w'.cell? ⟨b,oo+k*5+4,none⟩=some (.slice pz x.els.length cz)/\Hid (Below wr.heap.size wr w')) (first|exact zJB (by assumption) hb|exact ⟨x3,x4,zh (Below.refl _ _)⟩|exact ⟨x3,x4,zh (Below.refl _ _).drew⟩|go_keep) (first|(go_at_call 24;(with_reducible refine(K1.out _ (zA5 (by assumption))).mono ?_);rintro e w' ⟨rfl,hb⟩)|(go_at_call 24;(with_reducible refine(K2.out _ (zA5 (by assumption))).mono ?_);rintro e w' ⟨rfl,hb⟩))
     all_goals
      have hbf:=zA5 (by assumption);clear hs1 hs2;go_wp2_with fail;go_roundw
      case rel=>exact ⟨k+1,m+y+z,by go_num,by omega,by go_num,by rw [HNX.out,<-HM.out];omega,zC HBR hbf⟩
      case measure=>simp [intOf];omega
   ·have hfull:l.take k=l:=kR (by rw [HN.out];omega);rw [hfull] at hm;have HM2:=zh hm;clear hbr hm hfull;go_wp2;go_ret;exact⟨by rw [HM2.out];rfl,HBR⟩
end Go.Proofs.YtcnmfcgmnkncaaaGreatDoor
