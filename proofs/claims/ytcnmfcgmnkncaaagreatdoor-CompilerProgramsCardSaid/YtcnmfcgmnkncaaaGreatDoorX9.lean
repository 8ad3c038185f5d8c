/-
  CkFind, CoName, CoLocal.
-/
import Derived.Test.YtcnmfcgmnkncaaaGreatDoorX8
import Derived.RangeFuncNested
import Derived.RangeFuncBound
import Derived.RangeFuncCalls
import Derived.RangeFuncLeaves
import Derived.RangeFuncBox
import Derived.Shelf.Abstract
import Derived.Shelf.RegionOpen
import Derived.OwnWalkIn
import Derived.TacticsInMore
import Derived.LoopNIn
import Derived.LoopIn
set_option maxRecDepth 100000
set_option maxHeartbeats 40000000
open Go.Proofs.Tryz
namespace Go.Proofs.YtcnmfcgmnkncaaaGreatDoor
section
open Go.RowKit
def idxI:Option Nat->Int
 |none=> -1
 |some i=>i
theorem zDR {α:Type} {p:α->Bool} {l:List α} {j:Nat} {x:α} (h:∀t x,t<j->l[t]? =some x->p x=false) (hj:l[j]? =some x) (hx:p x=true):l.findIdx? p=some j:=by
 obtain⟨hlt,hg⟩:=kJ.1 hj;rw [List.findIdx?_eq_some_iff_getElem];refine⟨hlt,by rw [hg];exact hx,fun t ht=>?_⟩;have:=h t (l[t]'(by omega)) ht (kB (by omega));simp [this]
theorem zE2 {α:Type} {p:α->Bool} {l:List α} {n:Nat} (hn:l.length=n) (h:∀t x,t<n->l[t]? =some x->p x=false):l.findIdx? p=none:=by
 rw [List.findIdx?_eq_none_iff];intro x hx;obtain⟨t,ht,rfl⟩:=List.getElem_of_mem hx;exact h t _ (by omega) (kB ht)
theorem zGE {α:Type} {p:α->Bool} {l:List α} {i:Nat} (h:l.findIdx? p=some i):i<l.length:=by
 rw [List.findIdx?_eq_some_iff_getElem] at h;exact h.1
theorem zPT (nm:BA) (B:Nat) (W:World) (hB:W.cell? ⟨B,0,none⟩=some (.string nm)) (x:Tr.C) (a1 a2:Value) (h:ReadC W x a1 a2):
 Calls prog 124 #[classV x a1 a2,.pointer (some ⟨B,0,none⟩)] W fun e w'=>e= .returned (.bool (decide (x.name=nm)))/\Below W.heap.size W w':=by
 have hb0:=zAR hB;obtain⟨pa,ca,rfl⟩:=h.2.1.form;obtain⟨pb,cb,rfl⟩:=h.2.2.form;obtain⟨AN,hAN⟩:∃N,x.fields.length=N:=⟨_,rfl⟩;obtain⟨BN,hBN⟩:∃N,x.methods.length=N:=⟨_,rfl⟩;rw [hAN,hBN];clear h hAN hBN;unfold classV;go_in;go_wp2;go_ret;exact⟨zBT (zAF _ _),zD _ _⟩
theorem zR3 (nm:BA) (l:List Tr.C) (B:Nat) (W:World) (hB:W.cell? ⟨B,0,none⟩=some (.string nm)) (v:Value) (hS:SlC W v l):
 Calls prog 123 #[v,.func (.func 124) #[] #[.pointer (some ⟨B,0,none⟩)]] W fun e w'=>e= .returned (.int .i64 (idxI (Ck.zAB l nm)))/\Below W.heap.size W w':=by
 obtain⟨p,c,rfl⟩:=hS.form;have hll:=hS.len;unfold maxLen at hll;obtain⟨N,hN⟩:∃N,l.length=N:=⟨_,rfl⟩;rw [hN] at hS hll |-;have HS:=zh hS;have HN:=zh hN;clear hS hN;go_in;go_wp2
 go_loopw [8] (fun s8 wr=>∃j:Nat,s8= .int .i64 j/\j<=N/\(∀t x,t<j->l[t]? =some x->decide (x.name=nm)=false)/\Below W.heap.size W wr) (fun s8 _=>N -(intOf s8).toNat)
 case atStart=>exact ⟨0,rfl,kO _,fun t x ht=>by omega,Below.refl _ _⟩
 case round=>
  obtain⟨j,rfl,hj,hall,hbr⟩:=hrel;have HA:=zh hall;have HBR:=zh hbr;have HB1:=zh (zA hbr hB);clear hall;by_cases hlt:j<N
  ·obtain⟨x,hx⟩:∃x,l[j]? =some x:=⟨_,kB (by rw [HN.out];exact hlt)⟩;obtain⟨b,oo,a1,a2,rfl,_,hc,hnm,hsp,hsb⟩:=(HS.keep hbr).get hx;obtain⟨x0,x1,x2,x3⟩:=hc;have hr:ReadC wr x a1 a2:=⟨hnm,hsp,hsb⟩;have hcall:=zPT nm B wr HB1 x _ _ hr;unfold classV at hcall;have HX:=zh hx;clear hx hr hbr hnm hsp hsb;cases hv:decide (x.name=nm)
   ·rw [hv] at hcall;have HCL:=zh hcall;have HV:=zh hv;clear hcall hv;go_wp2_with fail;refine HCL.mono ?_;rintro e w2 ⟨rfl,hb2⟩;go_wp2_with fail;go_roundw
    case rel=>
     refine⟨j+1,by go_num,by omega,fun t y ht hty=>?_,zC HBR hb2⟩;by_cases e:t=j
     ·subst e;rw [HX.out] at hty;cases hty;exact HV
     ·exact HA t y (by omega) hty
    case measure=>simp [intOf];omega
   ·rw [hv] at hcall;have HCL:=zh hcall;have hf:=zh (zDR HA HX hv);clear hcall hv;go_wp2_with fail;refine HCL.mono ?_;rintro e w2 ⟨rfl,hb2⟩;go_wp2;go_ret;exact⟨by unfold Ck.zAB;rw [hf.out];rfl,zC HBR hb2⟩
  ·have hf:=zh (zE2 (n:=N) HN (fun t x ht=>HA t x (by omega)));clear hbr;go_wp2;go_ret;exact⟨by unfold Ck.zAB;rw [hf.out];rfl,HBR⟩
theorem zPS (nm:BA) (B:Nat) (W:World) (hB:W.cell? ⟨B,0,none⟩=some (.string nm)) (x:Tr.M) (a1 a2:Value) (h:ReadM W x a1 a2):
 Calls prog 126 #[methV x a1 a2,.pointer (some ⟨B,0,none⟩)] W fun e w'=>e= .returned (.bool (decide (x.name=nm)))/\Below W.heap.size W w':=by
 have hb0:=zAR hB;obtain⟨pa,ca,rfl⟩:=h.2.1.form;obtain⟨pb,cb,rfl,_⟩:=h.2.2.form;obtain⟨AN,hAN⟩:∃N,x.params.length=N:=⟨_,rfl⟩;obtain⟨BN,hBN⟩:∃N,x.body.length=N:=⟨_,rfl⟩;rw [hAN,hBN];clear h hAN hBN;unfold methV;go_in;go_wp2;go_ret;exact⟨zBT (zAF _ _),zD _ _⟩
theorem zR2 (nm:BA) (l:List Tr.M) (B:Nat) (W:World) (hB:W.cell? ⟨B,0,none⟩=some (.string nm)) (v:Value) (hS:SlM W v l):
 Calls prog 125 #[v,.func (.func 126) #[] #[.pointer (some ⟨B,0,none⟩)]] W fun e w'=>e= .returned (.int .i64 (idxI (Ck.zAM l nm)))/\Below W.heap.size W w':=by
 obtain⟨p,c,rfl⟩:=hS.form;have hll:=hS.len;unfold maxLen at hll;obtain⟨N,hN⟩:∃N,l.length=N:=⟨_,rfl⟩;rw [hN] at hS hll |-;have HS:=zh hS;have HN:=zh hN;clear hS hN;go_in;go_wp2
 go_loopw [8] (fun s8 wr=>∃j:Nat,s8= .int .i64 j/\j<=N/\(∀t x,t<j->l[t]? =some x->decide (x.name=nm)=false)/\Below W.heap.size W wr) (fun s8 _=>N -(intOf s8).toNat)
 case atStart=>exact ⟨0,rfl,kO _,fun t x ht=>by omega,Below.refl _ _⟩
 case round=>
  obtain⟨j,rfl,hj,hall,hbr⟩:=hrel;have HA:=zh hall;have HBR:=zh hbr;have HB1:=zh (zA hbr hB);clear hall;by_cases hlt:j<N
  ·obtain⟨x,hx⟩:∃x,l[j]? =some x:=⟨_,kB (by rw [HN.out];exact hlt)⟩;obtain⟨b,oo,a1,a2,rfl,_,hc,hnm,hsp,hsb⟩:=(HS.keep hbr).get hx;obtain⟨x0,x1,x2⟩:=hc;have hr:ReadM wr x a1 a2:=⟨hnm,hsp,hsb⟩;have hcall:=zPS nm B wr HB1 x _ _ hr;unfold methV at hcall;have HX:=zh hx;clear hx hr hbr hnm hsp hsb;cases hv:decide (x.name=nm)
   ·rw [hv] at hcall;have HCL:=zh hcall;have HV:=zh hv;clear hcall hv;go_wp2_with fail;refine HCL.mono ?_;rintro e w2 ⟨rfl,hb2⟩;go_wp2_with fail;go_roundw
    case rel=>
     refine⟨j+1,by go_num,by omega,fun t y ht hty=>?_,zC HBR hb2⟩;by_cases e:t=j
     ·subst e;rw [HX.out] at hty;cases hty;exact HV
     ·exact HA t y (by omega) hty
    case measure=>simp [intOf];omega
   ·rw [hv] at hcall;have HCL:=zh hcall;have hf:=zh (zDR HA HX hv);clear hcall hv;go_wp2_with fail;refine HCL.mono ?_;rintro e w2 ⟨rfl,hb2⟩;go_wp2;go_ret;exact⟨by unfold Ck.zAM;rw [hf.out];rfl,zC HBR hb2⟩
  ·have hf:=zh (zE2 (n:=N) HN (fun t x ht=>HA t x (by omega)));clear hbr;go_wp2;go_ret;exact⟨by unfold Ck.zAM;rw [hf.out];rfl,HBR⟩
theorem zIJ (nm:BA) (cs:List Tr.C) (v:Value) (w:World) (h:SlC w v cs):
 Calls prog 83 #[.agg #[v],.string nm] w fun e w'=>e= .returned (.tuple #[.int .i64 ((Ck.zAB cs nm).getD 0:Nat),.bool (Ck.zAB cs nm).isSome])/\Below w.heap.size w w':=by
 obtain⟨p,c,rfl⟩:=h.form;have hll:=h.len;unfold maxLen at hll;have KF:Hid (∀W B,Below w.heap.size w W->W.cell? ⟨B,0,none⟩=some (.string nm)->Calls prog 123 #[.slice p cs.length c,.func (.func 124) #[] #[.pointer (some ⟨B,0,none⟩)]] W fun e w'=>e= .returned (.int .i64 (idxI (Ck.zAB cs nm)))/\Below W.heap.size W w'):=fun W B hb hB=>
  zR3 nm cs B W hB _ (h.keep hb)
 cases hcl:Ck.zAB cs nm with
 |none=>
  rw [hcl] at KF;simp only [idxI] at KF;obtain⟨N,hN⟩:∃N,cs.length=N:=⟨_,rfl⟩;rw [hN] at KF |-;have hbx:=zC (zD w (.cells #[.slice p N c] 24)) (zD (w.alloc (.cells #[.slice p N c] 24)) (.cells #[.string nm] 9));have hcl2:=zJ (w.alloc (.cells #[.slice p N c] 24)) #[.string nm] 9 0 _ rfl;simp only [World.size_alloc] at hcl2;have HC:=zh (KF _ _ hbx hcl2);have HBX:=zh hbx;clear h hcl hN hbx hcl2 KF;go_in;go_wp2_with fail;refine HC.mono ?_;rintro e w2 ⟨rfl,hb2⟩;go_wp2_with fail;go_ret2;exact⟨rfl,zC HBX hb2⟩
 |some i=>
  rw [hcl] at KF;simp only [idxI] at KF;have hil:=zGE hcl;obtain⟨N,hN⟩:∃N,cs.length=N:=⟨_,rfl⟩;rw [hN] at KF hil hll |-;have hbx:=zC (zD w (.cells #[.slice p N c] 24)) (zD (w.alloc (.cells #[.slice p N c] 24)) (.cells #[.string nm] 9));have hcl2:=zJ (w.alloc (.cells #[.slice p N c] 24)) #[.string nm] 9 0 _ rfl;simp only [World.size_alloc] at hcl2;have HC:=zh (KF _ _ hbx hcl2);have HBX:=zh hbx;clear h hcl hN hbx hcl2 KF;go_in;go_wp2_with fail;refine HC.mono ?_;rintro e w2 ⟨rfl,hb2⟩;go_wp2_with fail;go_ret2;exact⟨rfl,zC HBX hb2⟩
theorem method_any (nm:BA) (cl:Tr.C) (fv v:Value) (w:World) (hfv:SlStr w fv cl.fields) (h:SlM w v cl.methods):
 Calls prog 87 #[classV cl fv v,.string nm] w fun e w'=>e= .returned (.tuple #[.int .i64 ((Ck.zAM cl.methods nm).getD 0:Nat),.bool (Ck.zAM cl.methods nm).isSome])/\Below w.heap.size w w':=by
 obtain⟨p,c,rfl⟩:=h.form;obtain⟨pf,cf,rfl⟩:=hfv.form;obtain⟨FN,hFN⟩:∃N,cl.fields.length=N:=⟨_,rfl⟩;unfold classV;rw [hFN];clear hfv hFN;have hll:=h.len;unfold maxLen at hll;have KF:Hid (∀W B,Below w.heap.size w W->W.cell? ⟨B,0,none⟩=some (.string nm)->Calls prog 125 #[.slice p cl.methods.length c,.func (.func 126) #[] #[.pointer (some ⟨B,0,none⟩)]] W fun e w'=>e= .returned (.int .i64 (idxI (Ck.zAM cl.methods nm)))/\Below W.heap.size W w'):=fun W B hb hB=>
  zR2 nm cl.methods B W hB _ (h.keep hb)
 cases hcl:Ck.zAM cl.methods nm with
 |none=>
  rw [hcl] at KF;simp only [idxI] at KF;obtain⟨N,hN⟩:∃N,cl.methods.length=N:=⟨_,rfl⟩;rw [hN] at KF |-;have hbx:=zC (zD w (.cells #[.string cl.name,.bool cl.actor,.slice pf FN cf,.slice p N c] 55)) (zD (w.alloc (.cells #[.string cl.name,.bool cl.actor,.slice pf FN cf,.slice p N c] 55)) (.cells #[.string nm] 9));have hcl2:=zJ (w.alloc (.cells #[.string cl.name,.bool cl.actor,.slice pf FN cf,.slice p N c] 55)) #[.string nm] 9 0 _ rfl;simp only [World.size_alloc] at hcl2;have HC:=zh (KF _ _ hbx hcl2);have HBX:=zh hbx;clear h hcl hN hbx hcl2 KF;go_in;go_wp2_with fail;refine HC.mono ?_;rintro e w2 ⟨rfl,hb2⟩;go_wp2_with fail;go_ret2;exact⟨rfl,zC HBX hb2⟩
 |some i=>
  rw [hcl] at KF;simp only [idxI] at KF;have hil:=zGE hcl;obtain⟨N,hN⟩:∃N,cl.methods.length=N:=⟨_,rfl⟩;rw [hN] at KF hil hll |-;have hbx:=zC (zD w (.cells #[.string cl.name,.bool cl.actor,.slice pf FN cf,.slice p N c] 55)) (zD (w.alloc (.cells #[.string cl.name,.bool cl.actor,.slice pf FN cf,.slice p N c] 55)) (.cells #[.string nm] 9));have hcl2:=zJ (w.alloc (.cells #[.string cl.name,.bool cl.actor,.slice pf FN cf,.slice p N c] 55)) #[.string nm] 9 0 _ rfl;simp only [World.size_alloc] at hcl2;have HC:=zh (KF _ _ hbx hcl2);have HBX:=zh hbx;clear h hcl hN hbx hcl2 KF;go_in;go_wp2_with fail;refine HC.mono ?_;rintro e w2 ⟨rfl,hb2⟩;go_wp2_with fail;go_ret2;exact⟨rfl,zC HBX hb2⟩
end
section
namespace Cw
open Go.RowKit Go.Maps Pw
theorem zH6 (s:BA) (v:Value) (l:List BA) (w:World) (h:SlStr w v l):
 Calls prog 134 #[v,.string s] w fun e w'=>e= .returned (.int .i64 (Co.idx l s))/\w'=w:=by
 obtain⟨p,c,rfl,hl,hn,hx⟩:=h;unfold maxLen at hl;obtain⟨N,hN⟩:∃N,l.length=N:=⟨_,rfl⟩;rw [hN] at hl |-;have HX:=zh hx;have HN:=zh hN;clear hx hn hN;go_in;go_wp2
 go_loop [8] (fun s8=>∃j:Nat,s8= .int .i64 j/\j<=N/\(∀t x,t<j->l[t]? =some x->decide (x=s)=false)) (fun s8=>N -(intOf s8).toNat)
 case atStart=>exact ⟨0,rfl,kO _,fun t x ht=>by omega⟩
 case round=>
  obtain⟨j,rfl,hj,hall⟩:=hrel;have HA:=zh hall;clear hall;by_cases hlt:j<N
  ·obtain⟨x,hjx⟩:∃x,l[j]? =some x:=⟨_,kB (by rw [HN.out];exact hlt)⟩;obtain⟨_,b,o,rfl,_,hc⟩:=HX j x hjx;have HJ:=zh hjx;clear hjx;cases hv:decide (x=s)
   ·have hv2:decide (s=x)=false:=by rw [<-hv];congr 1;exact propext ⟨Eq.symm,Eq.symm⟩
    have hq:(s.toList == x.toList)=false:=by rw [zAF,hv2]
    have HV:=zh hv;clear hv hv2;go_wp2_with fail;go_round
    case rel=>
     refine⟨j+1,by go_num,by omega,fun t y ht hty=>?_⟩;by_cases e:t=j
     ·subst e;rw [HJ.out] at hty;cases hty;exact HV
     ·exact HA t y (by omega) hty
    case measure=>simp [intOf];omega
   ·have hv2:decide (s=x)=true:=by rw [<-hv];congr 1;exact propext ⟨Eq.symm,Eq.symm⟩
    have hq:(s.toList == x.toList)=true:=by rw [zAF,hv2]
    have hf:Hid (Co.idx l s=(j:Int)):=zh (by unfold Co.idx;rw [zDR HA.out HJ.out hv]);clear hv hv2;go_wp2;go_ret;exact⟨by rw [hf.out];rfl,rfl⟩
  ·have hf:Hid (Co.idx l s= -1):=zh (by unfold Co.idx;rw [zE2 (n:=N) HN.out (fun t x ht=>HA t x (by omega))]);go_wp2;go_ret;exact⟨by rw [hf.out];rfl,rfl⟩
theorem zJG (s:BA) (v:Value) (l:List BA) (w:World) (h:SlStr w v l):
 Calls prog 143 #[v,.string s] w fun e w'=>e= .returned (.int .i64 (Co.idx l s))/\w'=w:=by
 obtain⟨p,c,rfl,hl,hn,hx⟩:=h;unfold maxLen at hl;obtain⟨N,hN⟩:∃N,l.length=N:=⟨_,rfl⟩;rw [hN] at hl |-;have HX:=zh hx;have HN:=zh hN;clear hx hn hN;go_in;go_wp2
 go_loop [5] (fun s5=>∃j:Nat,s5= .int .i64 j/\j<=N/\(∀t x,t<j->l[t]? =some x->decide (x=s)=false)) (fun s5=>N -(intOf s5).toNat)
 case atStart=>exact ⟨0,rfl,kO _,fun t x ht=>by omega⟩
 case round=>
  obtain⟨j,rfl,hj,hall⟩:=hrel;have HA:=zh hall;clear hall;by_cases hlt:j<N
  ·obtain⟨x,hjx⟩:∃x,l[j]? =some x:=⟨_,kB (by rw [HN.out];exact hlt)⟩;obtain⟨_,b,o,rfl,_,hc⟩:=HX j x hjx;have HJ:=zh hjx;clear hjx;cases hv:decide (x=s)
   ·have hv2:decide (s=x)=false:=by rw [<-hv];congr 1;exact propext ⟨Eq.symm,Eq.symm⟩
    have hq:(x.toList == s.toList)=false:=by rw [zAF,hv]
    have HV:=zh hv;clear hv hv2;go_wp2_with fail;go_round
    case rel=>
     refine⟨j+1,by go_num,by omega,fun t y ht hty=>?_⟩;by_cases e:t=j
     ·subst e;rw [HJ.out] at hty;cases hty;exact HV
     ·exact HA t y (by omega) hty
    case measure=>simp [intOf];omega
   ·have hv2:decide (s=x)=true:=by rw [<-hv];congr 1;exact propext ⟨Eq.symm,Eq.symm⟩
    have hq:(x.toList == s.toList)=true:=by rw [zAF,hv]
    have hf:Hid (Co.idx l s=(j:Int)):=zh (by unfold Co.idx;rw [zDR HA.out HJ.out hv]);clear hv hv2;go_wp2;go_ret;exact⟨by rw [hf.out];rfl,rfl⟩
  ·have hf:Hid (Co.idx l s= -1):=zh (by unfold Co.idx;rw [zE2 (n:=N) HN.out (fun t x ht=>HA t x (by omega))]);go_wp2;go_ret;exact⟨by rw [hf.out];rfl,rfl⟩
theorem zTT {g:Co.G} {s:BA} (h:0<=Co.idx g.names s):(Co.name g s).1=g/\((Co.name g s).2:Int)=Co.idx g.names s:=by
 unfold Co.idx at h |-;unfold Co.name;cases hf:g.names.findIdx? (fun x=>decide (x=s)) with
 |some i=>exact ⟨rfl,rfl⟩
 |none=>rw [hf] at h;exact absurd h (by decide)
theorem zTS {g:Co.G} {s:BA} (h:¬0<=Co.idx g.names s):(Co.name g s).1= { g with names:=g.names++ [s] }/\(Co.name g s).2=g.names.length:=by
 unfold Co.idx at h;unfold Co.name;cases hf:g.names.findIdx? (fun x=>decide (x=s)) with
 |some i=>rw [hf] at h;exact absurd (Int.natCast_nonneg i) h
 |none=>exact ⟨rfl,rfl⟩
def NQ (B0 gb:Nat) (cs:List Tr.C) (cl:Tr.C) (pv fv mv:Value) (g':Co.G) (r:Int) (cv nv vv:Value) (w:World) (e:Ending) (w':World):Prop:=
 e= .returned (.int .i64 r)/\∃cv' nv' vv',GS B0 gb cs cl pv fv mv g' cv' nv' vv' w'/\Gr w (owl gb cv nv vv) w' (owl gb cv' nv' vv')
theorem Mg.named {B0 gb:Nat} {cs:List Tr.C} {cl:Tr.C} {pv fv mv:Value} {g g':Co.G} {cv nv vv:Value} {w W W':World} {o0:List Nat} {bs:List Bk} {os:List (World->Prop)} {r:Int} (h:Mg B0 gb cs cl pv fv mv w o0 g cv nv vv bs os W) {e:Ending} (hp:NQ B0 gb cs cl pv fv mv g' r cv nv vv W e W'):e= .returned (.int .i64 r)/\∃cv' nv' vv',Hid (Mg B0 gb cs cl pv fv mv w o0 g' cv' nv' vv' bs os W'):=by
 obtain⟨he,c,n,v,h1,h2⟩:=hp;exact⟨he,c,n,v,zh (Mg.move h h1 h2)⟩
theorem name_any {B0 gb:Nat} {cs:List Tr.C} {cl:Tr.C} {pv fv mv:Value} {g:Co.G} {cv nv vv:Value} {w:World} (h:GS B0 gb cs cl pv fv mv g cv nv vv w) (hB:B0<=w.heap.size) {n:Nat} (hbd:Co.Bd n g/\n<=900000) (s:BA) (hsz:s.size<=maxLen):
 Calls prog 135 #[.pointer (some ⟨gb,0,none⟩),.string s] w (NQ B0 gb cs cl pv fv mv (Co.name g s).1 (Co.name g s).2 cv nv vv w):=by
 obtain⟨i0,hi0,hz0,hz1,hz2⟩:=info_parts strInfo;have hwl:wrap64 (g.names.length:Int)=g.names.length:=by have:=hbd.1.names;have:=hbd.2;unfold wrap64;omega
 have HBD:=zh hbd;have HSZ:=zh hsz;have KI:=zh (zH6 s nv g.names w (zOT h.names h.ns));have CG:=zh (Mg.start (os:= []) h hB (fun _ h=>by cases h));have gl:=lt_of_block h.blk;have g6:=zA0 h (j:=6) rfl;have gf6:=gfree h 6;clear h hB hbd hsz;by_cases hi:0<=Co.idx g.names s
 ·obtain⟨e1,e2⟩:=zTT hi;rw [e1,e2];obtain⟨I,hI⟩:∃q,Co.idx g.names s=q:=⟨_,rfl⟩;rw [hI] at KI hi |-;clear hI e1 e2;go_in;go_wp2_with fail;refine KI.mono ?_;rintro e w' ⟨rfl,hww⟩;subst hww;go_wp2;go_ret;exact⟨rfl,_,_,_,CG.q,CG.gr⟩
 ·obtain⟨e1,e2⟩:=zTS hi;rw [e1,e2];obtain⟨I,hI⟩:∃q,Co.idx g.names s=q:=⟨_,rfl⟩;rw [hI] at KI hi;clear hI e1 e2;go_in;go_wp2_with fail;refine KI.mono ?_;rintro e w' ⟨rfl,hww⟩;rw [hww];clear hww;obtain⟨G,wg,HG,HWG,hxg,CH⟩:=CG.boxE #[.string s] 9;clear gl g6 gf6;have gl:=lt_of_block CH.q.blk;have g6:=zA0 CH.q (j:=6) (u:=nv) rfl;have gf6:=gfree CH.q 6;have g60:=zA0 CG.q (j:=6) (u:=nv) rfl;go_wp2_with (at_builtin;rw [<-HG.out,<-HWG.out];refine zDJ zBV rfl _ _ 49 rfl i0 (.string ⟨#[]⟩) 16 underlying49 hi0 hz0 hz1 hz2 rfl (by decide) rfl CH.q.names G #[.string s] s rfl (CH.b 0 rfl) rfl (zM1 _) (by have:=HBD.1.names;have:=HBD.2;unfold maxLen;omega) (by have:=HBD.1.names;have:=HBD.2;omega) (kG CH.hB CH.le) ?_;intro v9 wa hr9 hg9 hf9;obtain⟨h1,h2⟩:=CH.q.addName hr9 hg9 hf9 HSZ;have CA:=zh (Mg.move CH h1 h2);obtain⟨pc,cc,hv9⟩:=own_form hr9;have hb9:=gr_at hg9 CH.q.blk (fun e=>(zB3.1 CH.q.nd).1.2.1 e.symm);have gla:=lt_of_block hb9;have ga6:=zB hb9 (j:=6) (u:=nv) rfl;have gaf6:=zP hb9 6;subst hv9;clear h1 h2 hr9 hg9 hf9 hb9 CH gl g6 gf6 g60);go_ret;have hl9:(g.names++ [s]).length=g.names.length+1:=(by simp);rw [hl9] at CA;refine⟨?_,_,_,_,CA.q,CA.gr⟩
  first|rfl|(simp [hwl];done)
end Cw
end
section
namespace Cw
open Go.RowKit Go.Maps Pw Go.Shelf
attribute [local go_sem] Oper.semAt_some
def upto {α:Type} (f:Nat->α) (k:Nat):List α:=(List.range k).map f
theorem zHK {α:Type} (f:Nat->α) (k:Nat):upto f (k+1)=upto f k++ [f k]:=by simp [upto,List.range_succ]
theorem zMN {α:Type} (f:Nat->α) (k:Nat):(upto f k).length=k:=by simp [upto]
theorem zT9 (F:Fence) (n:Nat) (h7:F.fn 188) (hro:F.round=none) (hn:1<=n) (l Bs n₀ b off cap:Nat) (zs:List (BA × Nat)) (hreach:zs.length<=1000000) (hb:b<n₀) (J Jx:List (Nat × (BA × Nat))->World->Prop)
 (hY:∀pre x W,J pre W->pre.length<zs.length->YieldAt F (n -1) prog l ((fun x:Nat × (BA × Nat)=> #[Value.int .i64 (x.1:Int),.agg #[.string x.2.1,.int .i64 (x.2.2:Nat)]]) x) W fun e W'=>
  (e= .returned (.bool true)/\J (pre++ [x]) W'/\Below n₀ W W')\/(e= .returned (.bool false)/\Jx (pre++ [x]) W'))
 (W:World) (hBn:Bs<n₀) (hBs:W.cell? ⟨Bs,0,none⟩=some (.slice (some ⟨b,off,none⟩) zs.length cap)) (hc:∀j,j<zs.length->W.cell? ⟨b,off+j*2,none⟩=some (.string (zs[j]?.getD (⟨⟨#[]⟩,0⟩:BA × Nat)).1)/\W.cell? ⟨b,off+j*2+1,none⟩=some (.int .i64 ((zs[j]?.getD (⟨⟨#[]⟩,0⟩:BA × Nat)).2:Nat))) (h0:J [] W):
 CallsIn F n prog 188 #[.func (.yield l) #[] #[],.pointer (some ⟨Bs,0,none⟩)] W fun e W'=>(∃v,e= .returned v)/\
  ((∃ys,ys=upto (fun j=>(zs.length -1 -j,zs[zs.length -1 -j]?.getD (⟨⟨#[]⟩,0⟩:BA × Nat))) zs.length/\J ys W')\/(∃pre,(∃k,k<=zs.length/\pre=upto (fun j=>(zs.length -1 -j,zs[zs.length -1 -j]?.getD (⟨⟨#[]⟩,0⟩:BA × Nat))) k)/\Jx pre W')):=by
 obtain⟨N,hN⟩:∃q,zs.length=q:=⟨_,rfl⟩;rw [hN] at hY hBs hc hreach |-;clear hN;refine callsIn_of_wp func188 rfl h7 ?_ hro;simp only [ntmps188,List.size_toArray,kI,kQ,Nat.reduceAdd,Nat.reduceSub,Array.replicate_succ,Array.replicate_zero,List.push_toArray,List.append_toArray,List.nil_append,List.cons_append]
 gi_wp2
 gi_loopw [3] (fun i wr=>∃k:Nat,k<=N/\((∃m:Nat,i= .int .i64 m/\m+k+1=N)\/(i= .int .i64 (-1)/\k=N))/\J (upto (fun j=>(N -1 -j,zs[N -1 -j]?.getD (⟨⟨#[]⟩,0⟩:BA × Nat))) k) wr/\Below n₀ W wr)
  (fun i _=>(intOf i+1).toNat)
 case atStart=>
  refine⟨0,kO _,?_,h0,Below.refl _ _⟩;cases N with
  |zero=>exact .inr ⟨by go_num,rfl⟩
  |succ N=>exact .inl ⟨N,by go_num,rfl⟩
 case round=>
  obtain⟨k,hk,hi,hJs,hnx⟩:=hrel;rcases hi with ⟨m,rfl,hm⟩|⟨rfl,rfl⟩
  ·have hmN:m<N:=(by omega);obtain⟨hc1,hc2⟩:=hc m hmN;have hx1:=(hnx.cell (p:=⟨b,off+m*2,none⟩) hb).trans hc1;have hx2:=(hnx.cell (p:=⟨b,off+m*2+1,none⟩) hb).trans hc2;have hxs:=(hnx.cell (p:=⟨Bs,0,none⟩) hBn).trans hBs;have h0m:(0:Int)<=(m:Int):=(by omega);have h1m:(m:Int)<(N:Int):=(by omega);obtain⟨fn,tmps,assign,body,hy,hR⟩:=hY _ (m,zs[m]?.getD (⟨⟨#[]⟩,0⟩:BA × Nat)) wr hJs (by rw [zMN];omega);dsimp only at hy;have hfm:(fun j=>(N -1 -j,zs[N -1 -j]?.getD (⟨⟨#[]⟩,0⟩:BA × Nat))) k=(m,zs[m]?.getD (⟨⟨#[]⟩,0⟩:BA × Nat)):=by
    have e:N -1 -k=m:=by omega
    show(N -1 -k,zs[N -1 -k]?.getD (⟨⟨#[]⟩,0⟩:BA × Nat))=_
    rw [e]
   gi_wp2
   refine hR.mono ?_;rintro e W3 (⟨rfl,hJ3,hk3⟩|⟨rfl,hJx3⟩)
   ·gi_wp2
    go_roundw
    case rel=>
     refine⟨k+1,by omega,?_,by rw [zHK,hfm];exact hJ3,hnx.trans hk3⟩;cases m with
     |zero=>exact .inr ⟨by go_num,by omega⟩
     |succ m=>exact .inl ⟨m,by go_num,by omega⟩
    case measure=>first|(simp [intOf];done)|(simp [intOf];omega)
   ·gi_wp2
    refine bodyPost_ret (results_none rfl _ _ _) rfl ?_;exact⟨⟨_,rfl⟩,.inr ⟨_,⟨k+1,by omega,by rw [zHK,hfm]⟩,hJx3⟩⟩
  ·gi_wp2
   go_end0;exact⟨⟨_,rfl⟩,.inl ⟨_,rfl,hJs⟩⟩
theorem zMC (F:Fence) (n:Nat) (h7:F.fn 188) (hro:F.round=none) (l Bs c:Nat) (p:Option Addr) (J:List (Nat × (BA × Nat))->World->Prop) (W:World) (hBs:W.cell? ⟨Bs,0,none⟩=some (.slice p 0 c)) (h0:J [] W):
 CallsIn F n prog 188 #[.func (.yield l) #[] #[],.pointer (some ⟨Bs,0,none⟩)] W fun e W'=>(∃v,e= .returned v)/\J [] W':=by
 refine callsIn_of_wp func188 rfl h7 ?_ hro;simp only [ntmps188,List.size_toArray,kI,kQ,Nat.reduceAdd,Nat.reduceSub,Array.replicate_succ,Array.replicate_zero,List.push_toArray,List.append_toArray,List.nil_append,List.cons_append]
 gi_wp2
 gi_loopw [3] (fun i wr=>i= .int .i64 (-1)/\J [] wr) (fun _ _=>0)
 case atStart=>exact ⟨by go_num,h0⟩
 case round=>
  obtain⟨rfl,hJs⟩:=hrel
  gi_wp2
  go_end0;exact⟨⟨_,rfl⟩,hJs⟩
theorem zVL (F:Fence) (n:Nat) (h5:F.fn 171) (hro:F.round=none) (a:Option Addr) (len cap:Nat) (w:World):
 CallsIn F n prog 171 #[.slice a len cap] w fun e w'=>e= .returned (.func (.func 188) #[] #[.pointer (some ⟨w.heap.size,0,none⟩)])/\w'=w.alloc (.cells #[.slice a len cap] 102):=by
 refine callsIn_of_wp func171 rfl h5 ?_ hro;simp only [ntmps171,List.size_toArray,kI,kQ,Nat.reduceAdd,Nat.reduceSub,Array.replicate_succ,Array.replicate_zero,List.push_toArray,List.append_toArray,List.nil_append,List.cons_append]
 gi_wp2
 go_ret;exact⟨rfl,rfl⟩
def VarsAt (n₀:Nat) (W:World) (sv:Value) (zs:List (BA × Nat)):Prop:=
 ∃p cap,sv= .slice p zs.length cap/\(zs= []\/∃b off,p=some ⟨b,off,none⟩/\b<n₀/\∀j,j<zs.length->W.cell? ⟨b,off+j*2,none⟩=some (.string (zs[j]?.getD (⟨⟨#[]⟩,0⟩:BA × Nat)).1)/\W.cell? ⟨b,off+j*2+1,none⟩=some (.int .i64 ((zs[j]?.getD (⟨⟨#[]⟩,0⟩:BA × Nat)).2:Nat)))
theorem VarsAt.below {n₀:Nat} {A B:World} (h:Below n₀ A B) {sv:Value} {zs:List (BA × Nat)}:VarsAt n₀ A sv zs->VarsAt n₀ B sv zs:=by
 rintro ⟨p,cap,e,hz⟩;refine⟨p,cap,e,?_⟩;rcases hz with hz|⟨b,off,e2,hb,hc⟩
 ·exact .inl hz
 ·exact .inr ⟨b,off,e2,hb,fun j hj=>⟨(h.cell (p:=⟨b,off+j*2,none⟩) hb).trans (hc j hj).1,(h.cell (p:=⟨b,off+j*2+1,none⟩) hb).trans (hc j hj).2⟩⟩
theorem zP2 (F:Fence) (n:Nat) (h7:F.fn 188) (hro:F.round=none) (hn:1<=n) (Bs n₀ m₀:Nat) (sv:Value) (zs:List (BA × Nat)) (hreach:zs.length<=1000000) (w:World) (hBs:Bs<n₀) (hm:m₀<=n₀) (hn₀:n₀<=w.heap.size)
 (hc:w.cell? ⟨Bs,0,none⟩=some sv) (hI:VarsAt m₀ w sv zs):
 SeqStopsK F n prog 188 #[.pointer (some ⟨Bs,0,none⟩)] (fun x:Nat × (BA × Nat)=> #[Value.int .i64 (x.1:Int),.agg #[.string x.2.1,.int .i64 (x.2.2:Nat)]]) (Below n₀) (fun ys=>ys=upto (fun j=>(zs.length -1 -j,zs[zs.length -1 -j]?.getD (⟨⟨#[]⟩,0⟩:BA × Nat))) zs.length)
  (fun pre=>∃k,k<=zs.length/\pre=upto (fun j=>(zs.length -1 -j,zs[zs.length -1 -j]?.getD (⟨⟨#[]⟩,0⟩:BA × Nat))) k) zs.length w:=fun l J Jx W hW _ _ hY h0=>by
 have hc':=(hW.cell (p:=⟨Bs,0,none⟩) (kP hBs hn₀)).trans hc;obtain⟨p,cap,rfl,hz⟩:=hI.below (hW.mono (kG hm hn₀));rcases hz with rfl|⟨b,off,rfl,hb,hcs⟩
 ·exact(zMC F n h7 hro l Bs _ _ J W hc' h0).mono fun e W' ⟨he,hj⟩=>⟨he,.inl ⟨_,rfl,hj⟩⟩
 ·exact zT9 F n h7 hro hn l Bs n₀ b off cap zs hreach (kP hb hm) J Jx hY W hBs hc' hcs h0
theorem zJM {α:Type} {p:α->Bool}:∀ {L:List α} {k:Nat} {y:α},(∀(t:Nat) (x:α),t<k->L[t]? =some x->p x=false)->L[k]? =some y->p y=true->L.find? p=some y
 | [],k,y,_,h,_=>by simp at h
 |x::r,0,y,_,h,hy=>by cases h;rw [List.find?_cons,hy]
 |x::r,k+1,y,hp,h,hy=>by
  rw [List.find?_cons,hp 0 x (by omega) rfl];exact zJM (L:=r) (k:=k) (fun t z ht hz=>hp (t+1) z (by omega) (by simpa using hz)) (by simpa using h) hy
theorem zPR {α:Type} {p:α->Bool} {L:List α} (hp:∀(t:Nat) (x:α),L[t]? =some x->p x=false):L.find? p=none:=by
 rw [List.find?_eq_none];intro x hx;obtain⟨t,ht⟩:=List.mem_iff_getElem?.1 hx;rw [hp t x ht]
 decide
theorem zQU {zs:List (BA × Nat)} {t:Nat} {x:BA × Nat} (h:zs.reverse[t]? =some x):t<zs.length/\x=zs[zs.length -1 -t]?.getD (⟨⟨#[]⟩,0⟩:BA × Nat):=by
 have hlt:t<zs.length:=by
  have:=(kJ.1 h).1
  rwa [List.length_reverse] at this
 rw [List.getElem?_reverse hlt] at h;rw [h];exact⟨hlt,rfl⟩
theorem zO5 {g:Co.G} {s:BA} (h:∀p∈upto (fun j=>(g.vars.length -1 -j,g.vars[g.vars.length -1 -j]?.getD (⟨⟨#[]⟩,0⟩:BA × Nat))) g.vars.length,p.2.1≠s):Co.zBG g s= -1:=by
 unfold Co.zBG;rw [zPR (fun t x ht=>?_)];obtain⟨hlt,rfl⟩:=zQU ht;exact kE (h (g.vars.length -1 -t,_) (List.mem_map.2 ⟨t,List.mem_range.2 hlt,rfl⟩))
theorem zO3 {g:Co.G} {s:BA} {k:Nat} (hk:k<g.vars.length) (h:∀p∈upto (fun j=>(g.vars.length -1 -j,g.vars[g.vars.length -1 -j]?.getD (⟨⟨#[]⟩,0⟩:BA × Nat))) k,p.2.1≠s) (hs:(g.vars[g.vars.length -1 -k]?.getD (⟨⟨#[]⟩,0⟩:BA × Nat)).1=s):Co.zBG g s=(g.vars[g.vars.length -1 -k]?.getD (⟨⟨#[]⟩,0⟩:BA × Nat)).2:=by
 unfold Co.zBG;have hg:g.vars.reverse[k]? =some (g.vars[g.vars.length -1 -k]?.getD (⟨⟨#[]⟩,0⟩:BA × Nat)):=by
  rw [List.getElem?_reverse hk,kB (by omega)]
  rfl
 rw [zJM (k:=k) (y:=g.vars[g.vars.length -1 -k]?.getD (⟨⟨#[]⟩,0⟩:BA × Nat)) (fun t x ht hx=>?_) hg (kS hs)];obtain⟨hlt,rfl⟩:=zQU hx;exact kE (h (g.vars.length -1 -t,_) (List.mem_map.2 ⟨t,List.mem_range.2 ht,rfl⟩))
theorem zUW {B0 gb:Nat} {cs:List Tr.C} {cl:Tr.C} {pv fv mv:Value} {g:Co.G} {cv nv vv:Value} {w:World} (h:GS B0 gb cs cl pv fv mv g cv nv vv w):VarsAt w.heap.size w vv g.vars:=by
 rcases own_cells zAS h.vars with ⟨e,rfl⟩|⟨b,cap,rfl,hb,hn,hm,hc⟩
 ·exact⟨none,0,by rw [e];rfl,.inl e⟩
 ·refine⟨_,cap,rfl,?_⟩;by_cases h0:g.vars= []
  ·exact .inl h0
  ·refine .inr ⟨b,0,rfl,(zAE h.vars rfl).2,fun j hj=>?_⟩;have hx:g.vars[j]? =some (g.vars[j]?.getD (⟨⟨#[]⟩,0⟩:BA × Nat)):=by rw [kB hj];rfl
   have c1:=hc j _ hx 0 _ rfl;have c2:=hc j _ hx 1 _ rfl;rw [Nat.add_zero] at c1;rw [Nat.zero_add];exact⟨c1,c2⟩
theorem zTO (F:Fence) (n:Nat) (h3:F.fn 133) (h5:F.fn 171) (h7:F.fn 188) (hro:F.round=none) (hn:3<=n) {B0 gb:Nat} {cs:List Tr.C} {cl:Tr.C} {pv fv mv:Value} {g:Co.G} {cv nv vv:Value} {w:World} (h:GS B0 gb cs cl pv fv mv g cv nv vv w) (hv:g.vars.length<=1000000) (s:BA):
 CallsIn F n prog 133 #[.pointer (some ⟨gb,0,none⟩),.string s] w fun e W'=>e= .returned (.int .i64 (Co.zBG g s))/\Below w.heap.size w W':=by
 have h1:1<=n:=by omega
 have hI:=zUW h;obtain⟨p,cap,hvv,_⟩:=id hI;have g7:=zA0 h (j:=7) (u:=vv) rfl;have gl:=lt_of_block h.blk;have HLN:=zh (zO5 (g:=g) (s:=s));have HLS:=zh (fun k=>zO3 (g:=g) (s:=s) (k:=k));obtain⟨L,hL⟩:∃q,Co.zBG g s=q:=⟨_,rfl⟩;rw [hL] at HLN HLS |-;rw [hvv] at g7 hI;obtain⟨zs,hzs⟩:∃q,g.vars=q:=⟨_,rfl⟩;rw [hzs] at hI HLN HLS hv g7;clear h hvv hL hzs;obtain⟨N,hN⟩:∃q,zs.length=q:=⟨_,rfl⟩;rw [hN] at g7 hI;refine callsIn_of_wp_marks func133 rfl h3 ?_ hro;simp only [ntmps133,List.size_toArray,kI,kQ,Nat.reduceAdd,Nat.reduceSub,Array.replicate_succ,Array.replicate_zero,List.push_toArray,List.append_toArray,List.nil_append,List.cons_append];have hb1:=zD w (.cells #[.string s] 9);have hb2:=zC hb1 (zD (w.alloc (.cells #[.string s] 9)) (.cells #[.int .i64 0] 3));have g7a:=zA hb2 g7;have gla:=kP gl hb2.size
 gi_wp2_with (gi_at_call 171;refine(zVL F (n -1) h5 hro _ _ _ _).mono ?_;rintro e w' ⟨rfl,rfl⟩)
 have bS:=((Boxed.new w 9 (.string s)).alloc (.cells #[.int .i64 0] 3)).alloc (.cells #[.slice p N cap] 102);have bR:=(Boxed.new (w.alloc (.cells #[.string s] 9)) 3 (.int .i64 0)).alloc (.cells #[.slice p N cap] 102);have bN:=Boxed.new ((w.alloc (.cells #[.string s] 9)).alloc (.cells #[.int .i64 0] 3)) 102 (.slice p N cap);simp only [World.size_alloc] at bR bN;have hB0:Below w.heap.size w (((w.alloc (.cells #[.string s] 9)).alloc (.cells #[.int .i64 0] 3)).alloc (.cells #[.slice p N cap] 102)):=(((Below.refl _ w).alloc (kL _) _).alloc (by simp) _).alloc (by simp;omega) _;have hsz:(((w.alloc (.cells #[.string s] 9)).alloc (.cells #[.int .i64 0] 3)).alloc (.cells #[.slice p N cap] 102)).heap.size=w.heap.size+3:=by simp
 obtain⟨W0,hW0⟩:∃W0,((w.alloc (.cells #[.string s] 9)).alloc (.cells #[.int .i64 0] 3)).alloc (.cells #[.slice p N cap] 102)=W0:=⟨_,rfl⟩;rw [hW0] at bS bR bN hB0 hsz |-;clear hW0 g7a gla g7 gl hb1 hb2;refine wpIn_rangeFunc_ownH hro h1 (gf:=188) (lb:= #[.pointer (some ⟨w.heap.size+1+1,0,none⟩)]) rfl h7 (enters_of func188 (by kernel_rfl) rfl)
  (zP2 F (n -1) h7 hro (by omega) (w.heap.size+1+1) (w.heap.size+3) w.heap.size _ zs hv W0 (by omega) (by omega) (by omega) bN.cell (by rw [hN] at*;exact hI.below hB0)) belowK_t (belowK_b (by omega)) (Below.refl _ _) (fun _=>rfl)
  (fun pre W=>(((∀p∈pre,p.2.1≠s)/\Boxed W (w.heap.size+1) 3 (.int .i64 0)/\Boxed W w.heap.size 9 (.string s))/\Below w.heap.size w W)/\Below (w.heap.size+3) W0 W)
  (fun c pre W=>(c= .ret/\∃ini last,pre=ini++ [last]/\(∀p∈ini,p.2.1≠s)/\last.2.1=s/\W.cell? ⟨w.heap.size+1,0,none⟩=some (.int .i64 (last.2.2:Nat)))/\Below w.heap.size w W)
  (OwnFrom.and (OwnFrom.and (Own.from (fun q A B row hs hg hr=>⟨hs.1,boxed_own _ _ (fun (_:Unit)=>Value.int .i64 0) () A B row hs.2.1 hg hr,boxed_own _ _ (fun (_:Unit)=>Value.string s) () A B row hs.2.2 hg hr⟩) _) (ownFrom_below (kL _) (by omega))) (ownFrom_below (by omega) (by omega)))
  (fun c=>OwnFrom.and (Own.from (fun q A B row hs hg hr=>by obtain⟨hc,ini,last,e1,e2,e3,e4⟩:=hs;exact⟨hc,ini,last,e1,e2,e3,cell_kept e4 hg hr⟩) _) (ownFrom_below (kL _) (by omega)))
  ⟨⟨⟨by simp,bR,bS⟩,hB0⟩,Below.refl _ _⟩
  (fun x a' W=>∃Bx,w.heap.size+2<Bx/\W.heap[Bx]? =some (.cells #[.string x.2.1,.int .i64 (x.2.2:Nat)] 106 (0,0))/\a'= { tmps:= #[.pointer (some ⟨gb,0,none⟩),.string s,undef,.pointer (some ⟨w.heap.size,0,none⟩),.pointer (some ⟨w.heap.size+1,0,none⟩),undef,.pointer (some ⟨Bx,0,none⟩),.pointer (some ⟨gb,0,none⟩),.pointer (some ⟨gb,0,none⟩),.pointer (some ⟨gb,7,none⟩),.slice p N cap,.func (.func 188) #[] #[.pointer (some ⟨w.heap.size+1+1,0,none⟩)],.int .i64 (x.1:Int),.agg #[.string x.2.1,.int .i64 (x.2.2:Nat)],undef,undef,undef,undef,undef,undef],defers:= [] })
  (fun x a' _ X Y row hs hg hr=>by obtain⟨Bx,h1,h2,h3⟩:=hs;exact⟨Bx,h1,gr_at hg h2 (fun e=>by obtain⟨o,ho,hc⟩:=(hr Bx e.symm).2;rw [h2] at ho;cases ho;cases hc),h3⟩)
  ?assign ?body ?done ?stop
 case assign=>
  rintro l pre x W K ⟨⟨⟨hp,bR1,bS1⟩,hB1⟩,hB2⟩ hK;have hsz2:=hB2.size
  gi_wp2
  exact hK _ _ ((KeepsOthers.alloc _ _).from _) ((Below.refl _ W).alloc (by omega) _) ⟨⟨⟨hp,bR1.alloc _,bS1.alloc _⟩,hB1.alloc hB1.size _⟩,hB2.alloc (by omega) _⟩ ⟨W.heap.size,by omega,zQ2 rfl,rfl⟩
 case body=>
  rintro l pre x a' W hl ⟨r,hr⟩ ⟨⟨⟨hp,bR1,bS1⟩,hB1⟩,hB2⟩ ⟨Bx,hBx,bX,rfl⟩ hlt;have cS:=bS1.cell;have cR:=bR1.cell;have fR:=bR1.frozen;have cX:=zB bX (j:=0) rfl;have cX1:=zB bX (j:=1) rfl;cases hv2:decide (x.2.1=s)
  ·have hq:(x.2.1.toList == s.toList)=false:=by rw [zAF,hv2]
   gi_wp2
   exact⟨KeepsFrom.refl _ _,Below.refl _ _,⟨⟨fun p hp'=>(kU.1 hp').elim (hp p) (fun e=>by rw [kT.1 e];exact of_decide_eq_false hv2),bR1,bS1⟩,hB1⟩,hB2⟩
  ·have hq:(x.2.1.toList == s.toList)=true:=by rw [zAF,hv2]
   gi_wp2
   exact⟨(KeepsOthers.setCell _ _ _).from _,⟨rfl,pre,x,rfl,hp,of_decide_eq_true hv2,World.cell?_setCell_same' _ _ _ (by rw [cR];rfl)⟩,hB1.setCell (p:=⟨w.heap.size+1,0,none⟩) (by simp) _⟩
 case done=>
  rintro D ys W hD rfl ⟨⟨⟨hne,bR1,bS1⟩,hB1⟩,_⟩ hK;have cR:=bR1.cell;have fR:=bR1.frozen
  gi_wp2
  have hK':=(KeepsOthers.setCell W ⟨w.heap.size+1,0,none⟩ (.int .i64 (-1))).same D _ hK rfl;refine⟨by simp,.inl ⟨_,_,rfl,run_takeDeferred hK',?_⟩⟩;have hc5:=cell_kept (World.cell?_setCell_same' W ⟨w.heap.size+1,0,none⟩ (.int .i64 (-1)) (by rw [cR];rfl)) (grownBy_putObj' _ D (.deferred none)) (fun r e=>by cases e;exact⟨_,hK',rfl⟩);refine⟨.int .i64 (-1),?_,by rw [HLN.out hne],(hB1.setCell (p:=⟨w.heap.size+1,0,none⟩) (by simp) _).trans (belowK_b (w:=w) (kL _) _ D _ _ (by omega) hK' rfl rfl)⟩;simp [results,Tryz.f133,go_sem,hc5]
 case stop=>
  rintro D c pre W hD ⟨k,hk,rfl⟩ ⟨⟨rfl,ini,last,e1,e2,e3,hcr⟩,hB1⟩ hK
  gi_wp2
  refine⟨by simp,.inl ⟨_,_,rfl,run_takeDeferred hK,?_⟩⟩;have hc5:=cell_kept hcr (grownBy_putObj' _ D (.deferred none)) (fun r e=>by cases e;exact⟨_,hK,rfl⟩);obtain⟨k',rfl⟩:∃k',k=k'+1:=by
   cases k with
   |zero=>simp [upto] at e1
   |succ k'=>exact ⟨k',rfl⟩
  rw [zHK] at e1;obtain⟨rfl,e5⟩:=List.append_inj' e1 rfl;have e6:(zs.length -1 -k',zs[zs.length -1 -k']?.getD (⟨⟨#[]⟩,0⟩:BA × Nat))=last:=by simpa using e5
  subst e6;refine⟨.int .i64 ((zs[zs.length -1 -k']?.getD (⟨⟨#[]⟩,0⟩:BA × Nat)).2:Nat),?_,by rw [HLS.out k' (by omega) e2 e3],hB1.trans (belowK_b (w:=w) (kL _) W D _ _ (by omega) hK rfl rfl)⟩;simp [results,Tryz.f133,go_sem,hc5]
theorem zLM {B0 gb:Nat} {cs:List Tr.C} {cl:Tr.C} {pv fv mv:Value} {g:Co.G} {cv nv vv:Value} {w:World} (h:GS B0 gb cs cl pv fv mv g cv nv vv w) (hv:g.vars.length<=1000000) (s:BA):
 Calls prog 133 #[.pointer (some ⟨gb,0,none⟩),.string s] w fun e W'=>e= .returned (.int .i64 (Co.zBG g s))/\Below w.heap.size w W':=
 callsIn_wide.1 (zTO Fence.wide 3 trivial trivial trivial rfl (by decide) h hv s)
end Cw
end
end Go.Proofs.YtcnmfcgmnkncaaaGreatDoor
