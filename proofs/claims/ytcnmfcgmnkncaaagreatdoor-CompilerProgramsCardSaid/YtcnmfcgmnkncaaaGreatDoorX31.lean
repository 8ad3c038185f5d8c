/-
  The reference's Class and Method, walked.
-/
import Derived.Test.YtcnmfcgmnkncaaaGreatDoorX9
set_option maxRecDepth 100000
set_option maxHeartbeats 40000000
open Go.Proofs.Tryz
namespace Go.Proofs.YtcnmfcgmnkncaaaGreatDoor
open Go.RowKit
theorem zD2 (nm:BA) (cs:List Tr.C) (v:Value) (w:World) (h:SlC w v cs):
 Calls prog 94 #[.agg #[v],.string nm] w fun e w'=>e= .returned (.tuple #[.int .i64 ((Ck.zAB cs nm).getD 0:Nat),.bool (Ck.zAB cs nm).isSome])/\Below w.heap.size w w':=by
 obtain⟨p,c,rfl⟩:=h.form;have hll:=h.len;unfold maxLen at hll;obtain⟨N,hN⟩:∃N,cs.length=N:=⟨_,rfl⟩;have HN:=zh hN;rw [hN] at h hll |-;clear hN;have hbx:=zD w (.cells #[.slice p N c] 24);have HS:=zh (h.keep hbx);have HB:=zh hbx;have HBC:=zh (zJ w #[.slice p N c] 24 0 _ rfl);obtain⟨w1,hw1⟩:∃w1,w1=w.alloc (.cells #[.slice p N c] 24):=⟨_,rfl⟩;rw [<-hw1] at HS HB HBC;clear h hbx;go_in;go_wp2;rw [<-hw1];clear hw1
 go_loopw [6] (fun s6 wr=>∃j:Nat,s6= .int .i64 j/\j<=N/\(∀t x,t<j->cs[t]? =some x->decide (x.name=nm)=false)/\Hid (Below w1.heap.size w1 wr)) (fun s6 _=>N -(intOf s6).toNat)
 case atStart=>exact ⟨0,rfl,kO _,fun t x ht=>by omega,zh (Below.refl _ _)⟩
 case round=>
  obtain⟨j,rfl,hj,hall,HBR⟩:=hrel;have HA:=zh hall;have c0:=zA HBR HBC;clear hall;by_cases hlt:j<N
  ·obtain⟨x,hx⟩:∃x,cs[j]? =some x:=⟨_,kB (by rw [HN.out];exact hlt)⟩;obtain⟨b,oo,a1,a2,rfl,_,hc,hnm,hsp,hsb⟩:=(HS.keep HBR).get hx;have x0:=hc.1;have HX:=zh hx;clear hx hc hnm hsp hsb;cases hv:decide (x.name=nm)
   ·have hq:(x.name.toList == nm.toList)=false:=by rw [zAF,hv]
    have HV:=zh hv;clear hv;go_wp2_with fail;go_roundw
    case rel=>
     refine⟨j+1,by go_num,by omega,fun t y ht hty=>?_,HBR⟩;by_cases e:t=j
     ·subst e;rw [HX.out] at hty;cases hty;exact HV
     ·exact HA t y (by omega) hty
    case measure=>simp [intOf];omega
   ·have hq:(x.name.toList == nm.toList)=true:=by rw [zAF,hv]
    have hf:Hid (Ck.zAB cs nm=some j):=zDR HA HX hv;clear hv;go_wp2_with fail;go_ret2;exact⟨by rw [hf.out];rfl,HB.trans (HBR.mono HB.size)⟩
  ·have hf:Hid (Ck.zAB cs nm=none):=zE2 (n:=N) HN (fun t x ht=>HA t x (by omega));go_wp2_with fail;go_ret2;exact⟨by rw [hf.out];rfl,HB.trans (HBR.mono HB.size)⟩
theorem zFK (nm:BA) (cl:Tr.C) (fv v:Value) (w:World) (hfv:SlStr w fv cl.fields) (h:SlM w v cl.methods):
 Calls prog 97 #[classV cl fv v,.string nm] w fun e w'=>e= .returned (.tuple #[.int .i64 ((Ck.zAM cl.methods nm).getD 0:Nat),.bool (Ck.zAM cl.methods nm).isSome])/\Below w.heap.size w w':=by
 obtain⟨pf,cf,rfl⟩:=hfv.form;obtain⟨FN,hFN⟩:∃N,cl.fields.length=N:=⟨_,rfl⟩;obtain⟨p,c,rfl⟩:=h.form;have hll:=h.len;unfold maxLen at hll;obtain⟨N,hN⟩:∃N,cl.methods.length=N:=⟨_,rfl⟩;have HN:=zh hN;rw [hN] at h hll |-;unfold classV;rw [hFN];clear hN hFN hfv;have hbx:=zD w (.cells #[.string cl.name,.bool cl.actor,.slice pf FN cf,.slice p N c] 55);have HS:=zh (h.keep hbx);have HB:=zh hbx;have HBC:=zh (zJ w #[.string cl.name,.bool cl.actor,.slice pf FN cf,.slice p N c] 55 3 _ rfl);obtain⟨w1,hw1⟩:∃w1,w1=w.alloc (.cells #[.string cl.name,.bool cl.actor,.slice pf FN cf,.slice p N c] 55):=⟨_,rfl⟩;rw [<-hw1] at HS HB HBC;clear h hbx;go_in;go_wp2;rw [<-hw1];clear hw1
 go_loopw [6] (fun s6 wr=>∃j:Nat,s6= .int .i64 j/\j<=N/\(∀t x,t<j->cl.methods[t]? =some x->decide (x.name=nm)=false)/\Hid (Below w1.heap.size w1 wr)) (fun s6 _=>N -(intOf s6).toNat)
 case atStart=>exact ⟨0,rfl,kO _,fun t x ht=>by omega,zh (Below.refl _ _)⟩
 case round=>
  obtain⟨j,rfl,hj,hall,HBR⟩:=hrel;have HA:=zh hall;have c0:=zA HBR HBC;clear hall;by_cases hlt:j<N
  ·obtain⟨x,hx⟩:∃x,cl.methods[j]? =some x:=⟨_,kB (by rw [HN.out];exact hlt)⟩;obtain⟨b,oo,a1,a2,rfl,_,hc,hnm,hsp,hsb⟩:=(HS.keep HBR).get hx;have x0:=hc.1;have HX:=zh hx;clear hx hc hnm hsp hsb;cases hv:decide (x.name=nm)
   ·have hq:(x.name.toList == nm.toList)=false:=by rw [zAF,hv]
    have HV:=zh hv;clear hv;go_wp2_with fail;go_roundw
    case rel=>
     refine⟨j+1,by go_num,by omega,fun t y ht hty=>?_,HBR⟩;by_cases e:t=j
     ·subst e;rw [HX.out] at hty;cases hty;exact HV
     ·exact HA t y (by omega) hty
    case measure=>simp [intOf];omega
   ·have hq:(x.name.toList == nm.toList)=true:=by rw [zAF,hv]
    have hf:Hid (Ck.zAM cl.methods nm=some j):=zDR HA HX hv;clear hv;go_wp2_with fail;go_ret2;exact⟨by rw [hf.out];rfl,HB.trans (HBR.mono HB.size)⟩
  ·have hf:Hid (Ck.zAM cl.methods nm=none):=zE2 (n:=N) HN (fun t x ht=>HA t x (by omega));go_wp2_with fail;go_ret2;exact⟨by rw [hf.out];rfl,HB.trans (HBR.mono HB.size)⟩
end Go.Proofs.YtcnmfcgmnkncaaaGreatDoor
