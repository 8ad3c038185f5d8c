/-
  TrFew2, CoFew, CoCode, CoMethod.
-/
import Derived.Test.YtcnmfcgmnkncaaaGreatDoorX16
import Derived.Laws.ResultCell
set_option maxRecDepth 100000
set_option maxHeartbeats 40000000
open Go.Proofs.Tryz
namespace Go.Proofs.YtcnmfcgmnkncaaaGreatDoor
open Go.RowKit
namespace Tr
theorem zK4 (l:List BA) (n:Int) (hl:l.length<=9223372036854775807) (h0: -1<=n) (h1:n<=1000000): -9223372036854775808<=zA4 l n/\zA4 l n<=n:=by
 unfold zA4
 split<;>omega
theorem zF8 {n:Int} (h:n<0):∀l,zAV l n=n
 | []=>rfl
 |e::r=>by rw [zAV,kD h]
theorem zE0 {n:Int} (h:0<=n) (e:M) (r:List M):zAV (e::r) n=zAV r (leftM e n):=by rw [zAV,kC (by omega)]
theorem zEF {n:Int} (h:n<0):∀l,leftCs l n=n
 | []=>rfl
 |e::r=>by rw [leftCs,kD h]
theorem zH2 {n:Int} (h:0<=n) (e:C) (r:List C):leftCs (e::r) n=leftCs r (leftC e n):=by rw [leftCs,kC (by omega)]
theorem zNX {m:M} {n a b:Int} (h:¬40<m.name.size) (h1:zA4 m.params (n -1)=a) (h2:(if 0<=a then zY m.body a else a)=b):leftM m n=b:=by
 unfold leftM;rw [kC h];subst h1;exact h2
theorem zO7 {m:M} {n:Int} (h:40<m.name.size):leftM m n= -1:=by unfold leftM;rw [kD h]
theorem zO9 {m:C} {n:Int} (h:40<m.name.size):leftC m n= -1:=by unfold leftC;rw [kD h]
theorem zNZ {m:C} {n a b:Int} (h:¬40<m.name.size) (h1:zA4 m.fields (n -1)=a) (h2:zAV m.methods a=b):leftC m n=b:=by
 unfold leftC;rw [kC h,h1,h2]
end Tr
theorem zR4 (v:Value) (cs:List Tr.C) (n:Int) (w:World) (h:SlC w v cs) (h0:0<=n) (hn:n<=1000000):
 Calls prog 11 #[.agg #[v],.int .i64 n] w fun r w'=>r= .returned (.bool (Tr.fewP cs n))/\Below w.heap.size w w':=by
 obtain⟨p,c,rfl⟩:=h.form;have hll:=h.len;unfold maxLen at hll;obtain⟨N,hN⟩:∃N,cs.length=N:=⟨_,rfl⟩;rw [hN] at h hll |-;have hbx:=zD w (.cells #[.slice p N c] 24);have HS:=zh (h.keep hbx);have HN:=zh hN;have HB:=zh hbx;have b0:=zJ w #[.slice p N c] 24 0 _ rfl;obtain⟨w1,hw1⟩:∃w1,w1=w.alloc (.cells #[.slice p N c] 24):=⟨_,rfl⟩;rw [<-hw1] at HS HB b0;clear h hN hbx;have hfin:Hid (∀m:Int,Tr.leftCs cs n=m->Tr.fewP cs n=decide (0<=m)):=fun m hm=>by unfold Tr.fewP;rw [hm]
 go_in;go_wp2;rw [<-hw1];clear hw1
 go_loopw [1,5] (fun s1 s5 wr=>∃(j:Nat) (m:Int),s5= .int .i64 j/\j<=N/\s1= .int .i64 m/\ -9223372036854775808<=m/\m<=1000000/\Tr.leftCs (cs.drop j) m=Tr.leftCs cs n/\Below w1.heap.size w1 wr) (fun _ s5 _=>N -(intOf s5).toNat)
 case atStart=>exact ⟨0,n,rfl,kO _,rfl,by omega,by omega,rfl,Below.refl _ _⟩
 case round=>
  obtain⟨j,m,rfl,hj,rfl,hm0,hm1,heq,hbr⟩:=hrel;obtain⟨wo,rfl⟩:∃wo:World,wo=wr:=⟨_,rfl⟩;have HEQ:=zh heq;have HBR:=zh hbr;have c0:=zA hbr b0;by_cases hlt:j<N
  ·by_cases hm:0<=m
   ·obtain⟨x,hx⟩:∃x,cs[j]? =some x:=⟨_,kB (by rw [HN.out];exact hlt)⟩;obtain⟨b,oo,vf,vm,rfl,hblt,hc,hnm,hsf,hsm⟩:=(HS.keep hbr).get hx;obtain⟨x0,x1,x2,x3⟩:=hc;rw [Tr.zG9 hx,Tr.zH2 hm] at heq;have HEQ2:=zh heq;obtain⟨nm,act,fs,ms⟩:=x;simp only [] at hnm hsf hsm x0 x1;unfold maxLen at hnm;obtain⟨pm,cm,rfl⟩:=hsm.form;have hml:=hsm.len;have hfl:fs.length<=maxLen:=by obtain⟨_,_,_,h1,_⟩:=hsf;exact h1
    unfold maxLen at hml hfl;obtain⟨MN,hMN⟩:∃N,ms.length=N:=⟨_,rfl⟩;rw [hMN] at hsm hml x3;obtain⟨pf,cf,rfl⟩:=hsf.form;have hsb:=Tr.zK4 fs (m -1) hfl (by omega) (by omega);obtain⟨FN,hFN⟩:∃N,fs.length=N:=⟨_,rfl⟩;rw [hFN] at hsf x2 hfl;have hbx:=zD wo (.cells #[.string nm,.bool act,.slice pf FN cf,.slice pm MN cm] 55);have HSF:=zh (hsf.keep hbx);have HSM:=zh (hsm.keep hbx);have HMN:=zh hMN;have HBX:=zh hbx;have e3:=zJ wo #[.string nm,.bool act,.slice pf FN cf,.slice pm MN cm] 55 3 _ rfl;obtain⟨W2,hW2⟩:∃W2,W2=wo.alloc (.cells #[.string nm,.bool act,.slice pf FN cf,.slice pm MN cm] 55):=⟨_,rfl⟩;rw [<-hW2] at HSF HSM HBX e3;clear hx hbr hsf hsm hMN hFN hbx heq HEQ;by_cases h40:40<nm.size
    ·have hf:=zh (hfin (-1) (by rw [<-HEQ2.out,Tr.zO9 h40,Tr.zEF (by omega)]));go_wp2;go_ret;exact⟨by rw [hf.out];rfl,by first|exact (HB.trans (HBR.mono HB.size)).alloc (kG HB.size HBR.size) _|exact HB.trans ((zC HBR (zD _ _)).mono HB.size)⟩
    ·have HW2:=zh hW2;clear hW2;go_wp2_with fail;rw [<-HW2.out];obtain⟨r,hr⟩:∃r,Tr.zA4 fs (m -1)=r:=⟨_,rfl⟩;have hcall:=zK3 _ fs (m -1) W2 HSF (by omega) (by omega);rw [hr] at hcall hsb;have HR:=zh hr;have HCL:=zh hcall;clear hr hcall HW2;refine HCL.mono ?_;rintro e w3 ⟨rfl,rfl⟩;have HBW:=zh (zC HBR HBX);go_wp2_with fail
     go_loopw [1,7] (fun s1 s7 wr=>∃(k:Nat) (m2:Int),s7= .int .i64 k/\k<=MN/\s1= .int .i64 m2/\ -9223372036854775808<=m2/\m2<=1000000/\Tr.zAV (ms.drop k) m2=Tr.zAV ms r/\Below W2.heap.size W2 wr) (fun _ s7 _=>MN -(intOf s7).toNat)
     case atStart=>exact ⟨0,r,rfl,kO _,rfl,by omega,by omega,rfl,Below.refl _ _⟩
     case round=>
      obtain⟨k,m2,rfl,hk,rfl,hm20,hm21,heq,hbr⟩:=hrel;have HE:=zh heq;have HBM:=zh hbr;have k3:=zA hbr e3;by_cases hgo:k<MN/\0<=m2
      ·obtain⟨hk1,hk2⟩:=hgo;obtain⟨y,hy⟩:∃y,ms[k]? =some y:=⟨_,kB (by rw [HMN.out];exact hk1)⟩;obtain⟨b2,o2,vp,vb,rfl,hblt2,hc2,hnm2,hsp,hsb2⟩:=(HSM.keep hbr).get hy;obtain⟨y0,y1,y2⟩:=hc2;rw [Tr.zG9 hy,Tr.zE0 hk2] at heq;have HE2:=zh heq;obtain⟨mn,ps,bd⟩:=y;simp only [] at hnm2 hsp hsb2 y0;unfold maxLen at hnm2;have hpl:ps.length<=maxLen:=by obtain⟨_,_,_,h1,_⟩:=hsp;exact h1
       unfold maxLen at hpl;have hsb3:=Tr.zK4 ps (m2 -1) hpl (by omega) (by omega);have HSP:=zh hsp;have HSB:=zh hsb2;clear hy heq hsp hsb2 hpl hbr HE;by_cases h40m:40<mn.size
       ·have hf:=zh (hfin (-1) (by rw [<-HEQ2.out,Tr.zNZ h40 HR.out (show Tr.zAV ms r= -1 by rw [<-HE2.out,Tr.zO7 h40m,Tr.zF8 (by omega)]),Tr.zEF (by omega)]));go_wp2;go_ret;exact⟨by rw [hf.out];rfl,HB.trans ((zC HBW HBM).mono HB.size)⟩
       ·obtain⟨r2,hr2⟩:∃r,Tr.zA4 ps (m2 -1)=r:=⟨_,rfl⟩;have hcall:=zK3 _ ps (m2 -1) wr HSP (by omega) (by omega);rw [hr2] at hcall hsb3;have HR2:=zh hr2;have HCL2:=zh hcall;clear hr2 hcall;go_wp2_with fail;refine HCL2.mono ?_;rintro e w4 ⟨rfl,rfl⟩;by_cases hr0:0<=r2
        ·have hcall:=zKB _ bd vb r2 wr (kL _) HSB hr0 (by omega);have hb5:=Tr.zB4 bd r2 (by omega);obtain⟨r3,hr3⟩:∃r,Tr.zY bd r2=r:=⟨_,rfl⟩;rw [hr3] at hcall hb5;have HCL3:=zh hcall;have HM3:=zh (show(if 0<=r2 then Tr.zY bd r2 else r2)=r3 by rw [kD hr0,hr3]);clear hr3 hcall;go_wp2_with fail;refine HCL3.mono ?_;rintro e w5 ⟨rfl,hb5'⟩;go_wp2_with fail;go_roundw
         case rel=>exact ⟨k+1,r3,by go_num,by omega,rfl,by omega,by omega,by rw [<-HE2.out,Tr.zNX h40m HR2.out HM3.out],zC HBM hb5'⟩
         case measure=>simp [intOf];omega
        ·have HM3:=zh (show(if 0<=r2 then Tr.zY bd r2 else r2)=r2 by rw [kC hr0]);go_wp2_with fail;go_roundw
         case rel=>exact ⟨k+1,r2,by go_num,by omega,rfl,by omega,by omega,by rw [<-HE2.out,Tr.zNX h40m HR2.out HM3.out],HBM⟩
         case measure=>simp [intOf];omega
      ·have hm2e:Tr.zAV ms r=m2:=by
        by_cases hk1:k<MN
        ·rw [<-heq,Tr.zF8 (by omega)]
        ·rw [<-heq,List.drop_eq_nil_of_le (by rw [HMN.out];omega),Tr.zAV]
       have HM2:=zh hm2e;have hgo':MN<=k\/(k<MN/\m2<0):=(by omega);clear heq hbr hm2e hgo;rcases hgo' with hg|⟨hg1,hg2⟩
       all_goals
        go_wp2_with fail;go_roundw
        case rel=>exact ⟨j+1,m2,by go_num,by omega,rfl,by omega,by omega,by rw [<-HEQ2.out,Tr.zNZ h40 HR.out HM2.out],HBW.trans (HBM.mono HBW.size)⟩
        case measure=>simp [intOf];omega
   ·have hf:=zh (hfin m (by rw [<-heq,Tr.zEF (by omega)]));clear heq hbr;go_wp2;go_ret;exact⟨by rw [hf.out,kE (by omega)];rfl,HB.trans (HBR.mono HB.size)⟩
  ·have hf:=zh (hfin m (by rw [<-heq,List.drop_eq_nil_of_le (by rw [HN.out];omega),Tr.leftCs]));clear heq hbr;go_wp2;go_ret;exact⟨by rw [hf.out];rfl,HB.trans (HBR.mono HB.size)⟩
end Go.Proofs.YtcnmfcgmnkncaaaGreatDoor
namespace Go.Proofs.YtcnmfcgmnkncaaaGreatDoor
namespace Co
open Tr
theorem zLR {e:E} {r:List E} {n:Int} (h:0<=zAD (e::r) n):0<=n/\0<=leftE e n/\zAD (e::r) n=zAD r (leftE e n):=by
 by_cases h0:n<0
 ·rw [zAD,kD h0] at h;omega
 ·rw [zAD,kC h0] at h |-;refine⟨by omega,?_,rfl⟩;rcases Int.lt_or_le (leftE e n) 0 with hlt|hge
  ·rw [zEE hlt] at h;omega
  ·exact hge
mutual
theorem zUV:∀(e:E) (n:Int),0<=leftE e n->(wE e:Int)+1<=17*(n -leftE e n)
 | .mk k o i nm a l,n,h=>by
   rw [leftE] at h |-;by_cases h4:40<nm.size
   ·rw [kD h4] at h;omega
   ·rw [kC h4] at h |-;have b1:=zJZ l (n -1) h;rw [wE];omega
theorem zJZ:∀(l:List E) (n:Int),0<=zAD l n->(wEs l:Int)+l.length<=17*(n -zAD l n)
 | [],n,h=>by rw [wEs,zAD];simp
 |e::r,n,h=>by
  obtain⟨a1,a2,a3⟩:=zLR h;rw [a3] at h |-;have b1:=zUV e n a2;have c1:=zJZ r _ h;rw [wEs,kI];omega
end
theorem zLO {e:S} {r:List S} {n:Int} (h:0<=zY (e::r) n):0<=n/\0<=leftS e n/\zY (e::r) n=zY r (leftS e n):=by
 by_cases h0:n<0
 ·rw [zY,kD h0] at h;omega
 ·rw [zY,kC h0] at h |-;refine⟨by omega,?_,rfl⟩;rcases Int.lt_or_le (leftS e n) 0 with hlt|hge
  ·rw [zCL hlt] at h;omega
  ·exact hge
theorem zLP {k:Int} {nm:BA} {x:List E} {b l:List S} {n:Int} (h:0<=leftS (.mk k nm x b l) n):0<=zAD x (n -1)/\0<=zY b (zAD x (n -1))/\0<=zY l (zY b (zAD x (n -1)))/\leftS (.mk k nm x b l) n=zY l (zY b (zAD x (n -1))):=by
 rw [leftS] at h |-;by_cases h4:40<nm.size
 ·rw [kD h4] at h;omega
 ·rw [kC h4] at h |-;simp only [] at h |-;by_cases a1:0<=zAD x (n -1)
  ·rw [kD a1] at h |-;by_cases a2:0<=zY b (zAD x (n -1))
   ·rw [kD a2] at h |-;exact⟨a1,a2,h,rfl⟩
   ·rw [kC a2] at h;exact absurd h a2
  ·rw [kC a1,kC a1] at h;exact absurd h a1
mutual
theorem zUT:∀(s:S) (n:Int),0<=leftS s n->(wS s:Int)<=33*(n -leftS s n)
 | .mk k nm x b l,n,h=>by
   obtain⟨a1,a2,a3,a4⟩:=zLP h;have b1:=zJZ x (n -1) a1;have c1:=zE4 b _ a2;have d1:=zE4 l _ a3;rw [a4,wS];omega
theorem zE4:∀(l:List S) (n:Int),0<=zY l n->(wSs l:Int)<=33*(n -zY l n)
 | [],n,h=>by rw [wSs,zY];simp
 |e::r,n,h=>by
  obtain⟨a1,a2,a3⟩:=zLO h;rw [a3] at h |-;have b1:=zUT e n a2;have c1:=zE4 r _ h;rw [wSs];omega
end
structure SmM (N:Nat) (m:M):Prop where
 w:wSs m.body<=33*N
 ps:m.params.length<=N
 sz:∀s∈m.params,s.size<=40
 nm:m.name.size<=40
structure SmC (N:Nat) (c:C):Prop where
 ms:c.methods.length<=N
 fs:c.fields.length<=N
 nm:c.name.size<=40
 sz:∀s∈c.fields,s.size<=40
 all:∀m∈c.methods,SmM N m
theorem zDN {l:List BA} {n:Int} (h:0<=zA4 l n):(∀s∈l,s.size<=40)/\zA4 l n=n -l.length:=by
 unfold zA4 at h |-;by_cases h0:l.any (fun s=>decide (40<s.size))=true
 ·rw [kD h0] at h;omega
 ·rw [kC h0];refine⟨fun s hs=>?_,rfl⟩;rw [List.any_eq_true] at h0;rcases Nat.lt_or_ge 40 s.size with h1|h1
  ·exact absurd ⟨s,hs,by simp [h1]⟩ h0
  ·exact h1
theorem zRA {m:M} {n:Int} {N:Nat} (hn:n<=N) (h:0<=leftM m n):SmM N m:=by
 unfold leftM at h;by_cases h4:40<m.name.size
 ·rw [kD h4] at h;omega
 ·rw [kC h4] at h;simp only [] at h;by_cases a1:0<=zA4 m.params (n -1)
  ·rw [kD a1] at h;obtain⟨b1,b2⟩:=zDN a1;rw [b2] at h a1;have h5:=zE4 m.body _ h;exact⟨by omega,by omega,b1,by omega⟩
  ·rw [kC a1] at h;exact absurd h a1
theorem zJD {m:M} {n:Int} (h1:0<=leftM m n):leftM m n<=n -1:=by
 unfold leftM at h1 |-
 split
 ·omega
 ·rename_i h4;rw [kC h4] at h1;simp only [] at h1 |-;by_cases a1:0<=zA4 m.params (n -1)
  ·rw [kD a1] at h1 |-;have h5:=zE4 m.body _ h1;have h7:=(zDN a1).2;omega
  ·rw [kC a1] at h1;exact absurd h1 a1
theorem zJC:∀(l:List M) (n:Int) (N:Nat),n<=N->0<=zAV l n->(l.length:Int)<=n/\∀m∈l,SmM N m
 | [],n,N,hn,h=>by rw [zAV] at h;exact⟨by simpa using h,fun m hm=>by cases hm⟩
 |m::r,n,N,hn,h=>by
  have h0:0<=n:=by
   rcases Int.lt_or_le n 0 with h0|h0
   ·rw [zAV,kD h0] at h;omega
   ·exact h0
  rw [zE0 h0] at h;have h1:0<=leftM m n:=by
   rcases Int.lt_or_le (leftM m n) 0 with hlt|hge
   ·rw [zF8 hlt] at h;omega
   ·exact hge
  have h6:=zJD h1;obtain⟨b1,b2⟩:=zJC r _ N (by omega) h;refine⟨by rw [kI];omega,fun x hx=>?_⟩;rcases kV.1 hx with rfl|hx
  ·exact zRA hn h1
  ·exact b2 x hx
theorem zHZ:∀ {l:List M} {n:Int},0<=zAV l n->0<=n
 | [],n,h=>by rw [zAV] at h;exact h
 |m::r,n,h=>by
  rcases Int.lt_or_le n 0 with h0|h0
  ·rw [zAV,kD h0] at h;omega
  ·exact h0
theorem zH0:∀(l:List M) (n:Int),zAV l n<=n\/zAV l n<0
 | [],n=>by rw [zAV];omega
 |m::r,n=>by
  by_cases h:0<=zAV (m::r) n
  ·have h0:=zHZ h;rw [zE0 h0] at h |-;have h3:=zH0 r (leftM m n);have h1:=zHZ h;have h4:=zJD h1;omega
  ·omega
theorem zRB {c:C} {n:Int} {N:Nat} (hn:n<=N) (h:0<=leftC c n):SmC N c/\leftC c n<=n -1:=by
 unfold leftC at h |-;by_cases h4:40<c.name.size
 ·rw [kD h4] at h;omega
 ·rw [kC h4] at h |-;have a1:0<=zA4 c.fields (n -1):=zHZ h;obtain⟨b1,b2⟩:=zDN a1;rw [b2] at h a1 |-;obtain⟨c1,c2⟩:=zJC c.methods _ N (by omega) h;have h9:=zH0 c.methods (n -1 -c.fields.length);exact⟨⟨by omega,by omega,by omega,b1,c2⟩,by omega⟩
theorem zJF:∀(l:List C) (n:Int) (N:Nat),n<=N->0<=leftCs l n->(l.length:Int)<=n/\∀c∈l,SmC N c
 | [],n,N,hn,h=>by rw [leftCs] at h;exact⟨by simpa using h,fun m hm=>by cases hm⟩
 |c::r,n,N,hn,h=>by
  have h0:0<=n:=by
   rcases Int.lt_or_le n 0 with h0|h0
   ·rw [leftCs,kD h0] at h;omega
   ·exact h0
  rw [zH2 h0] at h;have h1:0<=leftC c n:=by
   rcases Int.lt_or_le (leftC c n) 0 with hlt|hge
   ·rw [zEF hlt] at h;omega
   ·exact hge
  obtain⟨a1,a2⟩:=zRB hn h1;obtain⟨b1,b2⟩:=zJF r _ N (by omega) h;refine⟨by rw [kI];omega,fun x hx=>?_⟩;rcases kV.1 hx with rfl|hx
  ·exact a1
  ·exact b2 x hx
theorem zL4 {l:List C} {n:Nat} (h:fewP l n=true):l.length<=n/\∀c∈l,SmC n c:=by
 obtain⟨a,b⟩:=zJF l n n (Int.le_refl _) (of_decide_eq_true h);exact⟨by omega,b⟩
structure Cm where
 name:BA
 params:Nat
 locals:Nat
 code:List Ins
 names:List BA
structure Cc where
 name:BA
 actor:Bool
 fields:List BA
 methods:List Cm
def cmOf (m:M) (g:G):Cm:=⟨m.name,m.params.length,g.locals,g.code,g.names⟩
def cmsOf (cs:List C) (c:C):List M->Option (List Cm)
 | []=>some []
 |m::r=>(gM cs c m).bind fun g=>(cmsOf cs c r).map (cmOf m g:: ·)
def ccOf (c:C) (ms:List Cm):Cc:=⟨c.name,c.actor,c.fields,ms⟩
def ccsOf (cs:List C):List C->Option (List Cc)
 | []=>some []
 |c::r=>(cmsOf cs c c.methods).bind fun ms=>(ccsOf cs r).map (ccOf c ms:: ·)
theorem zL6 {cs:List C} {c:C}:∀ {l:List M} {d:List Cm} {m:M} {g:G},cmsOf cs c l=some d->gM cs c m=some g->cmsOf cs c (l++ [m])=some (d++ [cmOf m g])
 | [],d,m,g,h,hg=>by cases h;rw [List.nil_append,cmsOf,hg,cmsOf];rfl
 |x::r,d,m,g,h,hg=>by
  rw [cmsOf] at h;rw [List.cons_append,cmsOf];cases hx:gM cs c x with
  |none=>rw [hx] at h;cases h
  |some gx=>
   rw [hx] at h;cases hr:cmsOf cs c r with
   |none=>rw [hr] at h;cases h
   |some dr=>
    rw [hr] at h;cases h;rw [zL6 hr hg]
    rfl
theorem zJS {cs:List C} {c:C}:∀ {l:List M} {m:M},m∈l->gM cs c m=none->cmsOf cs c l=none
 | [],m,h,_=>by cases h
 |x::r,m,h,hg=>by
  rw [cmsOf];rcases kV.1 h with rfl|h
  ·rw [hg];rfl
  ·rw [zJS h hg];cases gM cs c x<;>rfl
theorem zL8 {cs:List C}:∀ {l:List C} {d:List Cc} {c:C} {ms:List Cm},ccsOf cs l=some d->cmsOf cs c c.methods=some ms->ccsOf cs (l++ [c])=some (d++ [ccOf c ms])
 | [],d,m,g,h,hg=>by cases h;rw [List.nil_append,ccsOf,hg,ccsOf];rfl
 |x::r,d,m,g,h,hg=>by
  rw [ccsOf] at h;rw [List.cons_append,ccsOf];cases hx:cmsOf cs x x.methods with
  |none=>rw [hx] at h;cases h
  |some gx=>
   rw [hx] at h;cases hr:ccsOf cs r with
   |none=>rw [hr] at h;cases h
   |some dr=>
    rw [hr] at h;cases h;rw [zL8 hr hg]
    rfl
theorem zJT {cs:List C}:∀ {l:List C} {c:C},c∈l->cmsOf cs c c.methods=none->ccsOf cs l=none
 | [],m,h,_=>by cases h
 |x::r,m,h,hg=>by
  rw [ccsOf];rcases kV.1 h with rfl|h
  ·rw [hg];rfl
  ·rw [zJT h hg];cases cmsOf cs x x.methods<;>rfl
theorem zII {cs:List C} {c:C}:∀ {l:List M} {d:List Cm},cmsOf cs c l=some d->d.length=l.length/\∀(j:Nat) (m:M),l[j]? =some m->∃g,gM cs c m=some g/\d[j]? =some (cmOf m g)
 | [],d,h=>by cases h;exact⟨rfl,fun j m hj=>by simp at hj⟩
 |x::r,d,h=>by
  rw [cmsOf] at h;cases hx:gM cs c x with
  |none=>rw [hx] at h;cases h
  |some gx=>
   rw [hx] at h;cases hr:cmsOf cs c r with
   |none=>rw [hr] at h;cases h
   |some dr=>
    rw [hr] at h;cases h;obtain⟨a,b⟩:=zII hr;refine⟨by rw [kI,kI,a],fun j m hj=>?_⟩;cases j with
    |zero=>cases hj;exact⟨gx,hx,rfl⟩
    |succ j=>exact b j m (by simpa using hj)
theorem zIL {cs:List C}:∀ {l:List C} {d:List Cc},ccsOf cs l=some d->d.length=l.length/\∀(j:Nat) (c:C),l[j]? =some c->∃ms,cmsOf cs c c.methods=some ms/\d[j]? =some (ccOf c ms)
 | [],d,h=>by cases h;exact⟨rfl,fun j m hj=>by simp at hj⟩
 |x::r,d,h=>by
  rw [ccsOf] at h;cases hx:cmsOf cs x x.methods with
  |none=>rw [hx] at h;cases h
  |some gx=>
   rw [hx] at h;cases hr:ccsOf cs r with
   |none=>rw [hr] at h;cases h
   |some dr=>
    rw [hr] at h;cases h;obtain⟨a,b⟩:=zIL hr;refine⟨by rw [kI,kI,a],fun j m hj=>?_⟩;cases j with
    |zero=>cases hj;exact⟨gx,hx,rfl⟩
    |succ j=>exact b j m (by simpa using hj)
end Co
end Go.Proofs.YtcnmfcgmnkncaaaGreatDoor
namespace Go.Proofs.YtcnmfcgmnkncaaaGreatDoor
namespace Cw
open Go.RowKit Go.Maps Pw
def CellsI (w:World) (b o:Nat) (x:Co.Ins):Prop:=
 w.cell? ⟨b,o,none⟩=some (.int .i64 x.1)/\w.cell? ⟨b,o+1,none⟩=some (.int .i64 x.2.1)/\w.cell? ⟨b,o+2,none⟩=some (.int .i64 x.2.2)
def SlI (w:World) (v:Value) (l:List Co.Ins):Prop:=
 ∃p c,v= .slice p l.length c/\l.length<=maxLen/\(l≠ []->l.length<=c/\c<=maxLen)/\∀j x,l[j]? =some x->∃b o,p=some ⟨b,o,none⟩/\b<w.heap.size/\CellsI w b (o+j*3) x
def CellsMm (w:World) (b o:Nat) (m:Co.Cm) (x y:Value):Prop:=
 w.cell? ⟨b,o,none⟩=some (.string m.name)/\w.cell? ⟨b,o+1,none⟩=some (.int .i64 m.params)/\w.cell? ⟨b,o+2,none⟩=some (.int .i64 m.locals)/\w.cell? ⟨b,o+3,none⟩=some x/\w.cell? ⟨b,o+4,none⟩=some y
def SlMm (w:World) (v:Value) (l:List Co.Cm):Prop:=
 ∃p c,v= .slice p l.length c/\l.length<=maxLen/\(l≠ []->l.length<=c/\c<=maxLen)/\∀j m,l[j]? =some m->m.name.size<=maxLen/\∃b o x y,p=some ⟨b,o,none⟩/\b<w.heap.size/\CellsMm w b (o+j*5) m x y/\SlI w x m.code/\SlStr w y m.names
def CellsCc (w:World) (b o:Nat) (m:Co.Cc) (x y:Value):Prop:=
 w.cell? ⟨b,o,none⟩=some (.string m.name)/\w.cell? ⟨b,o+1,none⟩=some (.bool m.actor)/\w.cell? ⟨b,o+2,none⟩=some x/\w.cell? ⟨b,o+3,none⟩=some y
def SlCc (w:World) (v:Value) (l:List Co.Cc):Prop:=
 ∃p c,v= .slice p l.length c/\l.length<=maxLen/\(l≠ []->l.length<=c/\c<=maxLen)/\∀j m,l[j]? =some m->m.name.size<=maxLen/\∃b o x y,p=some ⟨b,o,none⟩/\b<w.heap.size/\CellsCc w b (o+j*4) m x y/\SlStr w x m.fields/\SlMm w y m.methods
section
variable {w w':World} {v:Value}
theorem SlI.inc {l:List Co.Ins} (h:SlI w v l) (hb:Inc w w'):SlI w' v l:=by
 obtain⟨p,c,e,hl,hn,hx⟩:=h;refine⟨p,c,e,hl,hn,fun j s hj=>?_⟩;obtain⟨b,o,e2,h1,h2⟩:=hx j s hj;exact⟨b,o,e2,kP h1 hb.1,hb.2 _ _ _ h2.1,hb.2 _ _ _ h2.2.1,hb.2 _ _ _ h2.2.2⟩
theorem SlMm.inc {l:List Co.Cm} (h:SlMm w v l) (hb:Inc w w'):SlMm w' v l:=by
 obtain⟨p,c,e,hl,hn,hx⟩:=h;refine⟨p,c,e,hl,hn,fun j s hj=>?_⟩;obtain⟨hs,b,o,x,y,e2,h1,h2,h3,h4⟩:=hx j s hj;exact⟨hs,b,o,x,y,e2,kP h1 hb.1,⟨hb.2 _ _ _ h2.1,hb.2 _ _ _ h2.2.1,hb.2 _ _ _ h2.2.2.1,hb.2 _ _ _ h2.2.2.2.1,hb.2 _ _ _ h2.2.2.2.2⟩,h3.inc hb,h4.inc hb⟩
theorem SlCc.inc {l:List Co.Cc} (h:SlCc w v l) (hb:Inc w w'):SlCc w' v l:=by
 obtain⟨p,c,e,hl,hn,hx⟩:=h;refine⟨p,c,e,hl,hn,fun j s hj=>?_⟩;obtain⟨hs,b,o,x,y,e2,h1,h2,h3,h4⟩:=hx j s hj;exact⟨hs,b,o,x,y,e2,kP h1 hb.1,⟨hb.2 _ _ _ h2.1,hb.2 _ _ _ h2.2.1,hb.2 _ _ _ h2.2.2.1,hb.2 _ _ _ h2.2.2.2⟩,h3.inc hb,h4.inc hb⟩
theorem zFZ (hb:Below w.heap.size w w'):Inc w w':=⟨hb.size,fun _ _ _ h=>zA hb h⟩
theorem SlI.keep {l:List Co.Ins} (h:SlI w v l) (hb:Below w.heap.size w w'):SlI w' v l:=h.inc (zFZ hb)
theorem SlMm.keep {l:List Co.Cm} (h:SlMm w v l) (hb:Below w.heap.size w w'):SlMm w' v l:=h.inc (zFZ hb)
theorem SlCc.keep {l:List Co.Cc} (h:SlCc w v l) (hb:Below w.heap.size w w'):SlCc w' v l:=h.inc (zFZ hb)
theorem SlI.form {l:List Co.Ins} (h:SlI w v l):∃p c,v= .slice p l.length c/\(l≠ []->l.length<=c/\c<=maxLen):=by obtain⟨p,c,e,_,hn,_⟩:=h;exact⟨p,c,e,hn⟩
theorem SlMm.form {l:List Co.Cm} (h:SlMm w v l):∃p c,v= .slice p l.length c/\(l≠ []->l.length<=c/\c<=maxLen):=by obtain⟨p,c,e,_,hn,_⟩:=h;exact⟨p,c,e,hn⟩
theorem SlCc.form {l:List Co.Cc} (h:SlCc w v l):∃p c,v= .slice p l.length c/\(l≠ []->l.length<=c/\c<=maxLen):=by obtain⟨p,c,e,_,hn,_⟩:=h;exact⟨p,c,e,hn⟩
theorem SlI.len {l:List Co.Ins} (h:SlI w v l):l.length<=maxLen:=by obtain⟨p,c,e,hl,_,_⟩:=h;exact hl
theorem SlMm.len {l:List Co.Cm} (h:SlMm w v l):l.length<=maxLen:=by obtain⟨p,c,e,hl,_,_⟩:=h;exact hl
theorem SlCc.len {l:List Co.Cc} (h:SlCc w v l):l.length<=maxLen:=by obtain⟨p,c,e,hl,_,_⟩:=h;exact hl
theorem SlI.get {p:Option Addr} {n c:Nat} {l:List Co.Ins} (h:SlI w (.slice p n c) l) {j:Nat} {x:Co.Ins} (hj:l[j]? =some x):
 ∃b o,p=some ⟨b,o,none⟩/\b<w.heap.size/\CellsI w b (o+j*3) x:=by
 obtain⟨p',c',e,_,_,hx⟩:=h;cases e;exact hx j x hj
theorem SlMm.get {p:Option Addr} {n c:Nat} {l:List Co.Cm} (h:SlMm w (.slice p n c) l) {j:Nat} {m:Co.Cm} (hj:l[j]? =some m):
 ∃b o x y,p=some ⟨b,o,none⟩/\b<w.heap.size/\CellsMm w b (o+j*5) m x y/\m.name.size<=maxLen/\SlI w x m.code/\SlStr w y m.names:=by
 obtain⟨p',c',e,_,_,hx⟩:=h;cases e;obtain⟨h0,b,o,x,y,h1,h2,h3,h4,h5⟩:=hx j m hj;exact⟨b,o,x,y,h1,h2,h3,h0,h4,h5⟩
theorem SlCc.get {p:Option Addr} {n c:Nat} {l:List Co.Cc} (h:SlCc w (.slice p n c) l) {j:Nat} {m:Co.Cc} (hj:l[j]? =some m):
 ∃b o x y,p=some ⟨b,o,none⟩/\b<w.heap.size/\CellsCc w b (o+j*4) m x y/\m.name.size<=maxLen/\SlStr w x m.fields/\SlMm w y m.methods:=by
 obtain⟨p',c',e,_,_,hx⟩:=h;cases e;obtain⟨h0,b,o,x,y,h1,h2,h3,h4,h5⟩:=hx j m hj;exact⟨b,o,x,y,h1,h2,h3,h0,h4,h5⟩
theorem SlI.one {l:List Co.Ins} (h:SlI w v l):v.oneCell'=true:=by obtain⟨p,c,rfl,_⟩:=h;rfl
theorem SlMm.one {l:List Co.Cm} (h:SlMm w v l):v.oneCell'=true:=by obtain⟨p,c,rfl,_⟩:=h;rfl
theorem zMR (w:World) (p:Option Addr) (c:Nat):SlI w (.slice p 0 c) []:=⟨p,c,rfl,kO _,fun h=>absurd rfl h,fun j n hj=>by simp at hj⟩
theorem zS5 (w:World) (p:Option Addr) (c:Nat):SlMm w (.slice p 0 c) []:=⟨p,c,rfl,kO _,fun h=>absurd rfl h,fun j n hj=>by simp at hj⟩
theorem zJ3 (w:World) (p:Option Addr) (c:Nat):SlCc w (.slice p 0 c) []:=⟨p,c,rfl,kO _,fun h=>absurd rfl h,fun j n hj=>by simp at hj⟩
theorem zMQ {base:Nat} {l:List Co.Ins} (h:w.ownsRow base 65 3 v l.length (flatV iCells l)):SlI w v l:=by
 rcases own_cells zBW h with ⟨rfl,rfl⟩|⟨g,cap,rfl,hg,hn,hm,hc⟩
 ·exact zMR _ _ _
 ·refine⟨some ⟨g,0,none⟩,cap,rfl,by omega,fun _=>⟨hn,hm⟩,fun j m hj=>?_⟩;have c:=hc j m hj;exact⟨g,0,rfl,hg,by rw [Nat.zero_add];exact⟨c 0 _ rfl,c 1 _ rfl,c 2 _ rfl⟩⟩
abbrev MmT:=Co.Cm × Value × Value
abbrev CcT:=Co.Cc × Value × Value
def mmCells (x:MmT):List Value:= [.string x.1.name,.int .i64 x.1.params,.int .i64 x.1.locals,x.2.1,x.2.2]
def ccCells (x:CcT):List Value:= [.string x.1.name,.bool x.1.actor,x.2.1,x.2.2]
theorem zHW (x:MmT):(mmCells x).length=5:=rfl
theorem zIM (x:CcT):(ccCells x).length=4:=rfl
def ReadMm (w:World) (x:MmT):Prop:=x.1.name.size<=maxLen/\SlI w x.2.1 x.1.code/\SlStr w x.2.2 x.1.names
def ReadCc (w:World) (x:CcT):Prop:=x.1.name.size<=maxLen/\SlStr w x.2.1 x.1.fields/\SlMm w x.2.2 x.1.methods
theorem zHP:Mono ReadMm:=fun _ _ _ hi h=>⟨h.1,h.2.1.inc hi,h.2.2.inc hi⟩
theorem zMX:Mono ReadCc:=fun _ _ _ hi h=>⟨h.1,h.2.1.inc hi,h.2.2.inc hi⟩
theorem zM2 {x:MmT} (h:ReadMm w x):∀u∈mmCells x,u.oneCell'=true:=by
 intro u hu;simp only [mmCells,kV,List.not_mem_nil,or_false] at hu;rcases hu with rfl|rfl|rfl|rfl|rfl
 ·rfl
 ·rfl
 ·rfl
 ·exact SlI.one h.2.1
 ·exact SlStr.one h.2.2
theorem zNJ {x:CcT} (h:ReadCc w x):∀u∈ccCells x,u.oneCell'=true:=by
 intro u hu;simp only [ccCells,kV,List.not_mem_nil,or_false] at hu;rcases hu with rfl|rfl|rfl|rfl
 ·rfl
 ·rfl
 ·exact SlStr.one h.2.1
 ·exact SlMm.one h.2.2
theorem zS4 {base:Nat} {l:List MmT} (h:w.ownsRow base 59 5 v l.length (flatV mmCells l)) (hx:∀x∈l,ReadMm w x):SlMm w v (l.map Prod.fst):=by
 rcases own_cells zHW h with ⟨rfl,rfl⟩|⟨g,cap,rfl,hg,hn,hm,hc⟩
 ·exact zS5 _ _ _
 ·refine⟨some ⟨g,0,none⟩,cap,by rw [List.length_map],by rw [List.length_map];omega,fun _=>by rw [List.length_map];exact⟨hn,hm⟩,fun j m hj=>?_⟩;rw [List.getElem?_map,Option.map_eq_some_iff] at hj;obtain⟨a,ha,rfl⟩:=hj;obtain⟨h1,h2,h3⟩:=hx a (kM ha);have c:=hc j a ha;exact⟨h1,g,0,a.2.1,a.2.2,rfl,hg,by rw [Nat.zero_add];exact⟨c 0 _ rfl,c 1 _ rfl,c 2 _ rfl,c 3 _ rfl,c 4 _ rfl⟩,h2,h3⟩
theorem zS7 {base:Nat} {l:List CcT} (h:w.ownsRow base 52 4 v l.length (flatV ccCells l)) (hx:∀x∈l,ReadCc w x):SlCc w v (l.map Prod.fst):=by
 rcases own_cells zIM h with ⟨rfl,rfl⟩|⟨g,cap,rfl,hg,hn,hm,hc⟩
 ·exact zJ3 _ _ _
 ·refine⟨some ⟨g,0,none⟩,cap,by rw [List.length_map],by rw [List.length_map];omega,fun _=>by rw [List.length_map];exact⟨hn,hm⟩,fun j m hj=>?_⟩;rw [List.getElem?_map,Option.map_eq_some_iff] at hj;obtain⟨a,ha,rfl⟩:=hj;obtain⟨h1,h2,h3⟩:=hx a (kM ha);have c:=hc j a ha;exact⟨h1,g,0,a.2.1,a.2.2,rfl,hg,by rw [Nat.zero_add];exact⟨c 0 _ rfl,c 1 _ rfl,c 2 _ rfl,c 3 _ rfl⟩,h2,h3⟩
end
theorem cmInfo:(prog.info? 59).map (fun i=>(i.zero,i.size,i.bytes))=some (some (.agg #[.string ⟨#[]⟩,.int .i64 0,.int .i64 0,.slice none 0 0,.slice none 0 0]),5,80):=by kernel_rfl
theorem ccInfo:(prog.info? 52).map (fun i=>(i.zero,i.size,i.bytes))=some (some (.agg #[.string ⟨#[]⟩,.bool false,.slice none 0 0,.slice none 0 0]),4,72):=by kernel_rfl
end Cw
end Go.Proofs.YtcnmfcgmnkncaaaGreatDoor
namespace Go.Proofs.YtcnmfcgmnkncaaaGreatDoor
namespace Cw
open Go.RowKit Go.Maps Pw
theorem zUQ {B0 gb:Nat} {cs:List Tr.C} {cl:Tr.C} {pv fv mv:Value}:∀d:Nat,BC B0 gb cs cl pv fv mv d
 |0=>zOF (d:=0) (fun s _ _ _ _ _ _ _ _ _ hd=>by
  exfalso;cases s;rw [Tr.S.deep] at hd;omega)
 |d+1=>zOF (d:=d+1) (zUY (zUQ d))
def RN (a:Value) (l:List BA):World->Prop:=fun W=>SlStr W a l
theorem rn_mn {a:Value} {l:List BA}:Mn (RN a l):=fun _ _ hi h=>SlStr.inc h hi
theorem My.gen {w W:World} {bs:List Bk} {os:List (World->Prop)} {cs:List Tr.C} {cl:Tr.C} {pv fv mv:Value} {gb L:Nat} {t:TypeId} (ht:t=104)
 (h:My w ((gb,#[pv,.string cl.name,.bool cl.actor,fv,mv,.slice none 0 0,.slice none 0 0,.slice none 0 0,.int .i64 L,.int .i64 0,.int .i64 0,.bool false],t)::bs) [] W)
 (hp:SlC w pv cs) (hf:SlStr w fv cl.fields) (ro:∀r∈os,Mn r/\r w):
 Mg w.heap.size gb cs cl pv fv mv w [] ⟨[],[],[],L,0,0,false⟩ (.slice none 0 0) (.slice none 0 0) (.slice none 0 0) bs os W:=by
 subst ht;have hb:=My.fin h;have hlt:=h.lt 0 rfl;have hnd:=h.nd;rw [List.map_cons,List.nodup_cons] at hnd;have hin:∀l:List Nat,(∀q∈l,w.heap.size<=q)->Inc w (hide (upL 0 l) W):=fun l hl=>⟨by rw [zAW];exact hb.size,fun b o v hv=>by
  have hbl:=zAR hv;rw [zBB (zCE (kO _) (fun hm=>by have:=hl b hm;omega))];exact zA hb hv⟩
 have hlo:Inc w (loW w.heap.size W):=⟨by unfold loW;rw [zAW];exact hb.size,fun b o v hv=>by
  have hbl:=zAR hv;unfold loW;rw [zBB (kE (by omega))];exact zA hb hv⟩
 have hnil:∀(e:TypeId) (k:Nat),W.ownsRow w.heap.size e k (.slice none 0 0) 0 []:=fun e k=>⟨by simp,.inl ⟨rfl,rfl⟩⟩
 have how:∀b∈owl gb (.slice none 0 0) (.slice none 0 0) (.slice none 0 0),b=gb:=fun b hm=>by
  rcases zZ.1 hm with rfl|hm|hm|hm
  ·rfl
  ·cases hm
  ·cases hm
  ·cases hm
 refine⟨⟨h.b 0 rfl,hnil _ _,hnil _ _,hnil _ _,?_,hlt.1,fun s hs=>(by cases hs),fun s hs=>(by cases hs),hp.inc hlo,hf.inc hlo⟩,fun hs hk hq=>hq.keep hs hk,kL _,kO _,?_,?_,?_,hnd.2,?_⟩
 ·rw [zB3];exact⟨⟨fun e=>(by cases e),fun e=>(by cases e),fun e=>(by cases e)⟩,fun q e=>(by cases e),fun q e=>(by cases e)⟩
 ·exact(Gr.below hb []).wide (fun b hm=> .inr (by rw [how b hm];exact hlt.1))
 ·intro b hm;rw [how b hm];exact⟨hlt.2,hlt.1⟩
 ·intro x hx;refine⟨(h.bl x (kK _ hx)).1,(h.bl x (kK _ hx)).2.1,fun hm=>?_⟩;have e:=how _ hm;exact hnd.1 (List.mem_map.2 ⟨x,hx,e⟩)
 ·intro r hr;refine⟨(ro r hr).1,(ro r hr).1 _ _ (hin _ (fun q hq=>?_)) (ro r hr).2⟩;rcases kU.1 hq with hq|hq
  ·rw [how q hq];exact hlt.1
  ·exact(h.lts (q:=q) (by rw [List.map_cons];exact kK _ hq)).1
def set5 (w:World) (b:Nat) (x0 x1 x2 x3 x4:Value):World:=(((((w.setCell ⟨b,0,none⟩ x0).setCell ⟨b,1,none⟩ x1).setCell ⟨b,2,none⟩ x2).setCell ⟨b,3,none⟩ x3).setCell ⟨b,4,none⟩ x4)
theorem zTB {w:World} {b:Nat} {y0 y1 y2 y3 y4:Value} {t:TypeId} (x0 x1 x2 x3 x4:Value) (h:w.heap[b]? =some (.cells #[y0,y1,y2,y3,y4] t (0,0))):(set5 w b x0 x1 x2 x3 x4).heap[b]? =some (.cells #[x0,x1,x2,x3,x4] t (0,0)):=
 heap_set (j:=4) x4 (heap_set (j:=3) x3 (heap_set (j:=2) x2 (heap_set (j:=1) x1 (heap_set (j:=0) x0 h))))
theorem zF3 (w:World) (b:Nat) (x0 x1 x2 x3 x4:Value):w.grownBy (set5 w b x0 x1 x2 x3 x4) (some b):=
 zAQ (zAQ (zAQ (zAQ (zAQ (zCQ _ _) (zW _ b 0 x0)) (zW _ b 1 x1)) (zW _ b 2 x2)) (zW _ b 3 x3)) (zW _ b 4 x4)
theorem zA1 {P:Program} {fn:Func} {p u:Tmp} {ty:TypeId} (h:fn.results= #[.cell p ty,.tmp u]) (tmps:Array Value) (w:World) (g:Nat) (t:TypeId) (cs:Array Value) (fr:Nat × Nat) (d:TypeDesc)
 (hp:tmps.getD p undef= .pointer (some ⟨g,0,none⟩)) (hg:w.heap[g]? =some (.cells cs t fr))
 (hu:P.underlying ty=some d) (hd:(match d with| .struct _| .array _ _=>true|_=>false)=true) (hi:(P.info? ty).map (·.size)=some cs.size):
 (results fn tmps).run P w= .ok (.tuple #[.agg cs,tmps.getD u undef]) w:=by
 rw [results_cell_tmp h,hp];simp [asAddr,Result.andThen,run_loadVar_row w g t ty cs fr d hg hu hd hi]
theorem Mz.retM {B0 V:Nat} {w W:World} {o0 ow:List Nat} {Q:World->Prop} {bs:List Bk} {os:List (World->Prop)} {R:Nat} {x0 x1 x2 x3 x4 y0 y1 y2 y3 y4 eu:Value} (h:Mz B0 V w o0 Q ow bs os W) (i:Nat) (hi:bs[i]? =some (R,#[y0,y1,y2,y3,y4],59)) {fn:Func} {q u:Tmp} {A:Act} (hr:fn.results= #[.cell q 59,.tmp u]) (hq:A.tmps.getD q undef= .pointer (some ⟨R,0,none⟩)) (hu:A.tmps.getD u undef=eu) (hd:A.defers= []) {Post:Ending->World->Prop}
 (hp:∀W',Mz B0 V w o0 Q ow (bs.set i (R,#[x0,x1,x2,x3,x4],59)) os W'->Post (.returned (.tuple #[.agg #[x0,x1,x2,x3,x4],eu])) W'):
 bodyPost prog fn Post .ret A (set5 W R x0 x1 x2 x3 x4):=by
 have h2:=h.set i hi (zF3 W R x0 x1 x2 x3 x4) (zTB _ _ _ _ _ (h.b i hi));have hil:i<bs.length:=(kJ.1 hi).1;have hS:=h2.b i (X:=R) (by rw [List.getElem?_set,kD rfl,kD hil]);subst hu;exact bodyPost_ret (v:= .tuple #[.agg #[x0,x1,x2,x3,x4],A.tmps.getD u undef]) (zA1 hr _ _ R _ _ _ _ hq hS underlying59 rfl (by kernel_rfl)) hd (hp _ h2)
def MP (cs:List Tr.C) (cl:Tr.C) (m:Tr.M) (w:World) (e:Ending) (w':World):Prop:=
 Below w.heap.size w w'/\match Co.gM cs cl m with
  |none=>e= .returned (.tuple #[.agg #[.string ⟨#[]⟩,.int .i64 0,.int .i64 0,.slice none 0 0,.slice none 0 0],.int .i64 8])
  |some g=>∃cv nv,e= .returned (.tuple #[.agg #[.string m.name,.int .i64 m.params.length,.int .i64 g.locals,cv,nv],.int .i64 0])/\SlI (hide (upL w.heap.size []) w') cv g.code/\SlStr (hide (upL w.heap.size []) w') nv g.names
theorem zHV {cs:List Tr.C} {cl:Tr.C} {m:Tr.M} {w w':World} (h:Co.gM cs cl m=none) (hb:Below w.heap.size w w'):MP cs cl m w (.returned (.tuple #[.agg #[.string ⟨#[]⟩,.int .i64 0,.int .i64 0,.slice none 0 0,.slice none 0 0],.int .i64 8])) w':=by
 unfold MP;rw [h];exact⟨hb,rfl⟩
theorem zQ4 {cs:List Tr.C} {cl:Tr.C} {m:Tr.M} {w w':World} {g:Co.G} {cv nv:Value} {N:Nat} (h:Co.gM cs cl m=some g) (hN:m.params.length=N) (hb:Below w.heap.size w w') (hc:SlI (hide (upL w.heap.size []) w') cv g.code) (hn:SlStr (hide (upL w.heap.size []) w') nv g.names):
 MP cs cl m w (.returned (.tuple #[.agg #[.string m.name,.int .i64 N,.int .i64 g.locals,cv,nv],.int .i64 0])) w':=by
 unfold MP;rw [h,<-hN];exact⟨hb,cv,nv,rfl,hc,hn⟩
theorem Mg.rows {gb:Nat} {cs:List Tr.C} {cl:Tr.C} {pv fv mv:Value} {g:Co.G} {cv nv vv:Value} {w W:World} {bs:List Bk} {os:List (World->Prop)} (h:Mg w.heap.size gb cs cl pv fv mv w [] g cv nv vv bs os W):
 Below w.heap.size w W/\SlI (hide (upL w.heap.size []) W) cv g.code/\SlStr (hide (upL w.heap.size []) W) nv g.names:=
 ⟨h.gr.fresh,zMQ (zCB h.q.code (fun k hk=>zCE (zAE h.q.code hk).1 (by simp))),slStr_own (zCB h.q.names (fun k hk=>zCE (zAE h.q.names hk).1 (by simp))) h.q.ns⟩
theorem zD6 {cs:List Tr.C} {c:Tr.C} {m:Tr.M} {g:Co.G} (hg:Co.emit (Co.gB cs c.fields ⟨[],[],Co.vars0 m.params,m.params.length,0,0,false⟩ m.body) 25 0 0 0 0=g) (h:g.large=true\/4000<g.code.length\/1024<g.names.length\/64<g.most):Co.gM cs c m=none:=by
 unfold Co.gM;dsimp only;rw [hg,kD h]
theorem zRH {cs:List Tr.C} {c:Tr.C} {m:Tr.M} {g:Co.G} (hg:Co.emit (Co.gB cs c.fields ⟨[],[],Co.vars0 m.params,m.params.length,0,0,false⟩ m.body) 25 0 0 0 0=g) (h:¬(g.large=true\/4000<g.code.length\/1024<g.names.length\/64<g.most)):Co.gM cs c m=some g:=by
 unfold Co.gM;dsimp only;rw [hg,kC h]
theorem zC3 (l:List BA):(Co.vars0 l).length=l.length:=by unfold Co.vars0;exact List.length_zipIdx
theorem zIU {l:List BA} {j:Nat} {s:BA} (h:l[j]? =some s):Co.vars0 (l.take (j+1))=Co.vars0 (l.take j)++ [(s,j)]:=by
 have hlt:=(kJ.1 h).1;unfold Co.vars0;rw [List.take_add_one,h,List.zipIdx_append];simp [Nat.min_eq_left (Nat.le_of_lt hlt)]
theorem zIT {l:List BA}:∀x∈Co.vars0 l,x.2<=l.length:=by
 intro x hx;unfold Co.vars0 at hx;have:=List.mem_zipIdx hx;omega
theorem method_any {cs:List Tr.C} {cl:Tr.C} {m:Tr.M} {pv fv mv xv yv:Value} {w:World} (hp:SlC w pv cs) (hf:SlStr w fv cl.fields) (hm:∃p N c,mv= .slice p N c) (hx:SlStr w xv m.params) (hy:SlS w yv m.body) (hv:Tr.zV m.body=true) (hnm:m.name.size<=maxLen) (hbd:m.params.length+Co.wSs m.body+9<=900000):
 Calls prog 35 #[.agg #[pv],.agg #[.string cl.name,.bool cl.actor,fv,mv],.agg #[.string m.name,xv,yv]] w (MP cs cl m w):=by
 have hp0:=hp;have hf0:=hf;have hx0:=hx;have hy0:=hy;obtain⟨pp,cp,rfl,_⟩:=hp.form;obtain⟨pf,cf,rfl,_,_⟩:=hf;obtain⟨px,cx,rfl,hxl,_⟩:=hx;obtain⟨py,cy,rfl,_⟩:=hy.form;obtain⟨pm,MN,cm,rfl⟩:=hm;obtain⟨CN,hCN⟩:∃q,cs.length=q:=⟨_,rfl⟩;obtain⟨FN,hFN⟩:∃q,cl.fields.length=q:=⟨_,rfl⟩;obtain⟨PN,hPN⟩:∃q,m.params.length=q:=⟨_,rfl⟩;obtain⟨YN,hYN⟩:∃q,m.body.length=q:=⟨_,rfl⟩;rw [hCN] at hp0 |-;rw [hFN] at hf0 |-;rw [hPN] at hx0 hbd |-;rw [hYN] at hy0 |-;have HP:=zh hp0;have HF:=zh hf0;have HXS:=zh hx0;have HY:=zh hy0;have HPN:=zh hPN;have HV:=zh hv;have HT:=zh hbd;have HNM:=zh hnm;have hpn:PN<=900000:=by omega
 have C0:=zh (My.start w);clear hp hy hp0 hf0 hx0 hy0 hCN hFN hPN hYN hv hbd hnm hxl;obtain⟨P,w1,HX1,HW1,hx1,C1⟩:=C0.boxE #[.slice pp CN cp] 24;obtain⟨C,w2,HX2,HW2,hx2,C2⟩:=C1.boxE #[.string cl.name,.bool cl.actor,.slice pf FN cf,.slice pm MN cm] 55;have HY2:Hid (C=P+1):=zh (by rw [HX2.out,HW1.out,HX1.out];simp);obtain⟨M,w3,HX3,HW3,hx3,C3⟩:=C2.boxE #[.string m.name,.slice px PN cx,.slice py YN cy] 62;have HY3:Hid (M=C+1):=zh (by rw [HX3.out,HW2.out,HX2.out];simp);obtain⟨R,w4,HX4,HW4,hx4,C4⟩:=C3.boxE #[.string ⟨#[]⟩,.int .i64 0,.int .i64 0,.slice none 0 0,.slice none 0 0] 59;have HY4:Hid (R=M+1):=zh (by rw [HX4.out,HW3.out,HX3.out];simp);go_in;go_upto_region 1 with fail;rw [<-HX1.out,<-HW1.out,<-HY2.out,<-HW2.out,<-HY3.out,<-HW3.out,<-HY4.out,<-HW4.out];clear HX1 HW1 C0 HY2 HX2 HW2 C1 HY3 HX3 HW3 C2 HY4 HX4 HW4 C3;have q3:=zS (C4.b 3 rfl);have q2:=cells4 (C4.b 2 rfl);have q1:=cells3 (C4.b 1 rfl);obtain⟨gb,w5,HX,HW,hx5,C5⟩:=C4.boxE #[.slice pp CN cp,.string cl.name,.bool cl.actor,.slice pf FN cf,.slice pm MN cm,.slice none 0 0,.slice none 0 0,.slice none 0 0,.int .i64 PN,.int .i64 0,.int .i64 0,.bool false] 104;go_upto_region 2 with fail;rw [<-HX.out,<-HW.out];clear HX HW C4 q3 q2 q1;have CG:=zh (My.gen (os:= [RN (.slice px PN cx) m.params,RS (.slice py YN cy) m.body]) rfl C5 HP HF (fun r hr=>by
  rcases kV.1 hr with rfl|hr
  ·exact⟨rn_mn,HXS⟩
  rw [kT.1 hr];exact⟨rs_mn,HY⟩))
 clear C5;have q1:=cells3 (CG.b 1 rfl);go_wp2_with fail;clear q1
 go_loopg [21] PN (fun gg s21 wr=>∃j:Nat,s21= .int .i64 j/\j<=PN/\gg=PN -j/\∃vv',Hid (Mg w.heap.size gb cs cl (.slice pp CN cp) (.slice pf FN cf) (.slice pm MN cm) w [] ⟨[],[],(Co.vars0 (m.params.take j)),PN,0,0,false⟩ (.slice none 0 0) (.slice none 0 0) vv' [(R,#[.string ⟨#[]⟩,.int .i64 0,.int .i64 0,.slice none 0 0,.slice none 0 0],59),(M,#[.string m.name,.slice px PN cx,.slice py YN cy],62),(C,#[.string cl.name,.bool cl.actor,.slice pf FN cf,.slice pm MN cm],55),(P,#[.slice pp CN cp],24)] [RN (.slice px PN cx) m.params,RS (.slice py YN cy) m.body] wr))
 case atStart=>exact ⟨0,rfl,kO _,rfl,.slice none 0 0,zh (by rw [List.take_zero];exact CG)⟩
 case round=>
  clear CG;obtain⟨j,rfl,hj,rfl,vv',CR⟩:=hrel;by_cases hlt:j<PN
  ·obtain⟨x,hx⟩:∃x,m.params[j]? =some x:=⟨_,kB (by rw [HPN.out];exact hlt)⟩;obtain⟨pq,cq,e9,_,_,hx9⟩:=CR.rd 0 rfl;injection e9 with e9a e9b e9c
   subst e9a;subst e9c;clear e9b;obtain⟨hxs,b,oo,hp9,hblt,hxc⟩:=hx9 j x hx;subst hp9;have HSZ:=zh hxs;have HNX:Hid (Co.vars0 (m.params.take (j+1))=Co.vars0 (m.params.take j)++ [(x,j)]):=zh (zIU hx);obtain⟨vl,hvl⟩:∃q,Co.vars0 (m.params.take j)=q:=⟨_,rfl⟩;have hvn:vl.length=j:=by rw [<-hvl,zC3,List.length_take,HPN.out];omega
   have HVN:=zh hvn;rw [hvl] at CR HNX;clear hx hx9 hxs hvl hvn;have b0j:(0:Int)<=(j:Int):=(by omega);have b3j:(j:Int)<(PN:Int):=(by omega);obtain⟨i0,hi0,hz0,hz1,hz2⟩:=info_parts varInfo;obtain⟨G,wg,HG,HWG,hxg,CH⟩:=CR.boxE #[.string x,.int .i64 j] 106;have gl:=lt_of_block CH.q.blk;have g7:=zA0 CH.q (j:=7) (u:=vv') rfl;have gf7:=gfree CH.q 7;have g70:=zA0 CR.q (j:=7) (u:=vv') rfl;have gl0:=lt_of_block CR.q.blk;go_wp2_with (at_builtin;rw [<-HG.out,<-HWG.out];refine zDJ zAS rfl _ _ 102 rfl i0 (.agg #[.string ⟨#[]⟩,.int .i64 0]) 24 underlying102 hi0 hz0 hz1 hz2 rfl (by decide) rfl CH.q.vars G #[.string x,.int .i64 j] (x,j) rfl (CH.b 0 rfl) rfl (zBI _) (by have:=HVN.out;unfold maxLen;show vl.length+1<=_;omega) (by have:=HVN.out;show(vl.length+1)*24<=_;omega) (kG CH.hB CH.le) ?_;intro v9 wa hr9 hg9 hf9;obtain⟨h1,h2⟩:=CH.q.addVar hr9 hg9 hf9 HSZ;have CA:=zh (Mg.move CH h1 h2).tl;obtain⟨pc,cc,hv9⟩:=own_form hr9;have hb9:=gr_at hg9 CH.q.blk (fun e=>(zB3.1 CH.q.nd).1.2.2 e.symm);have gla:=lt_of_block hb9;have ga7:=zB hb9 (j:=7) (u:=vv') rfl;have gaf7:=zP hb9 7;subst hv9;clear h1 h2 hr9 hg9 hf9 hb9 CH gl g7 gf7 g70 gl0 hxc hblt);go_roundg (PN -(j+1))
   case measure=>omega
   case rel=>exact ⟨j+1,by go_num,by omega,rfl,_,zh (by rw [HNX.out];have h9:=CA.out;rw [show (vl++ [(x,j)]).length=vl.length+1 by simp] at h9;exact h9)⟩
  ·obtain rfl:PN=j:=by omega
   rw [kR (by rw [HPN.out];exact kL _)] at CR;clear hj hlt;have HBD:Hid (Co.Bd PN ⟨[],[],(Co.vars0 m.params),PN,0,0,false⟩/\PN<=900000):=zh ⟨⟨kO _,kO _,by show(Co.vars0 m.params).length<=_;rw [zC3,HPN.out];exact kL _,fun y hy=>by rw [<-HPN.out];exact zIT y hy,kL _,⟨by show -((_:Nat):Int)<=(0:Int);omega,by show(0:Int)<=((_:Nat):Int);omega⟩,⟨by show -((_:Nat):Int)<=(0:Int);omega,by show(0:Int)<=((_:Nat):Int);omega⟩⟩,hpn⟩;have q1:=cells3 (CR.b 1 rfl);go_wp2_with fail;clear q1;refine(zUQ (Tr.S.deep.deeps m.body) m.body _ _ _ _ wr (.slice py YN cy) _ (kL _) HV CR.q (kG CR.hB CR.le) ⟨HBD.1,by have:=HT.out;omega⟩ (Mg.sightS CR 1 rfl)).mono ?_;rintro e w7 hp7;obtain⟨rfl,cv7,nv7,vv7,C7⟩:=Mg.done CR hp7;clear hp7 CR;have HB8:Hid (Co.Bd (PN+Co.wSs m.body) (Co.gB cs cl.fields ⟨[],[],(Co.vars0 m.params),PN,0,0,false⟩ m.body)/\PN+Co.wSs m.body<=900000):=zh ⟨(Co.zDD cs cl.fields _ _ m.body HBD.1).shut (HBD.1.mono (by omega)),by have h9:=HT.out;omega⟩;clear HBD;go_wp2_with fail;refine(zAO C7.q (kG C7.hB C7.le) HB8 (25) (0) (0) (0) (0) ⟨by omega,by omega⟩ ⟨by omega,by omega⟩).mono ?_;rintro e w9 hp9;obtain⟨rfl,cv9,nv9,vv9,C9⟩:=Mg.done C7 hp9;clear hp9 C7;have HB10:Hid (Co.Bd (PN+Co.wSs m.body+1+1) (Co.emit (Co.gB cs cl.fields ⟨[],[],(Co.vars0 m.params),PN,0,0,false⟩ m.body) (25) (0) (0) (0) (0))/\PN+Co.wSs m.body+1+1<=900000):=zh ⟨HB8.1.em (m:=1) ⟨by omega,by omega⟩ ⟨by omega,by omega⟩,by have h9:=HT.out;omega⟩;clear HB8;obtain⟨GG,hGG⟩:∃q,Co.emit (Co.gB cs cl.fields ⟨[],[],(Co.vars0 m.params),PN,0,0,false⟩ m.body) (25) (0) (0) (0) (0)=q:=⟨_,rfl⟩;rw [hGG] at C9 HB10;have hgg:=hGG;have HGG:Hid (Co.emit (Co.gB cs cl.fields ⟨[],[],Co.vars0 m.params,m.params.length,0,0,false⟩ m.body) 25 0 0 0 0=GG):=zh (by rw [HPN.out];exact hgg);clear hGG hgg;obtain⟨pcv,ccv,hcv⟩:=own_form C9.q.code;obtain⟨pnv,cnv,hnv⟩:=own_form C9.q.names;subst hcv;subst hnv;obtain⟨CL,hCL⟩:∃q,GG.code.length=q:=⟨_,rfl⟩;obtain⟨NL,hNL⟩:∃q,GG.names.length=q:=⟨_,rfl⟩;obtain⟨MO,hMO⟩:∃q,GG.most=q:=⟨_,rfl⟩;obtain⟨LO,hLO⟩:∃q,GG.locals=q:=⟨_,rfl⟩;have gl:=lt_of_block C9.q.blk;have g5:=zA0 C9.q (j:=5) rfl;have g6:=zA0 C9.q (j:=6) rfl;have g8:=zA0 C9.q (j:=8) rfl;have g10:=zA0 C9.q (j:=10) rfl;have g11:=zA0 C9.q (j:=11) rfl;rw [hCL] at g5;rw [hNL] at g6;rw [hLO] at g8;rw [hMO] at g10;have HCL:=zh hCL;have HNL:=zh hNL;have HMO:=zh hMO;have HLO:=zh hLO;clear hCL hNL hMO hLO;cases hlg:GG.large
   ·rw [hlg] at g11;by_cases h4:(4000:Int)<(CL:Int)
    ·have HN:Hid (Co.gM cs cl m=none):=zh (zD6 HGG (.inr (.inl (by rw [HCL.out];omega))));have q0:=zX (C9.b 0 rfl);go_wp2;refine Mz.retM C9 0 rfl results35 rfl rfl rfl (fun W9 h9=>zHV HN h9.gr.fresh)
    ·by_cases h5:(1024:Int)<(NL:Int)
     ·have HN:Hid (Co.gM cs cl m=none):=zh (zD6 HGG (.inr (.inr (.inl (by rw [HNL.out];omega)))));have q0:=zX (C9.b 0 rfl);go_wp2;refine Mz.retM C9 0 rfl results35 rfl rfl rfl (fun W9 h9=>zHV HN h9.gr.fresh)
     ·by_cases h6:(64:Int)<MO
      ·have HN:Hid (Co.gM cs cl m=none):=zh (zD6 HGG (.inr (.inr (.inr (by rw [HMO.out];exact h6)))));have q0:=zX (C9.b 0 rfl);go_wp2;refine Mz.retM C9 0 rfl results35 rfl rfl rfl (fun W9 h9=>zHV HN h9.gr.fresh)
      ·have HN:Hid (Co.gM cs cl m=some GG):=zh (zRH HGG (by rw [hlg,HCL.out,HNL.out,HMO.out];rintro (h|h|h|h)<;>first|omega|cases h));go_upto_region 11 with fail;clear hlg h4 h5 h6;obtain⟨wd,HWD,CD⟩:=C9.drewE;have d8:=zA0 CD.q (j:=8) rfl;have d5:=zA0 CD.q (j:=5) rfl;have d6:=zA0 CD.q (j:=6) rfl;rw [HLO.out] at d8;rw [HCL.out] at d5;rw [HNL.out] at d6;have HSH:Hid (wd.cell? ⟨M,0,none⟩=some (.string m.name)/\wd.cell? ⟨M,1,none⟩=some (.slice px PN cx)/\wd.cell? ⟨gb,8,none⟩=some (.int .i64 LO)/\wd.cell? ⟨gb,5,none⟩=some (.slice pcv CL ccv)/\wd.cell? ⟨gb,6,none⟩=some (.slice pnv NL cnv)):=zh ⟨zB (CD.b 1 rfl) (j:=0) rfl,zB (CD.b 1 rfl) (j:=1) rfl,d8,d5,d6⟩;have HNE:Hid (M≠R/\gb≠R):=zh ⟨fun e=>by have h9:=CD.nd;simp [e] at h9,fun e=>(CD.lts (q:=R) (by simp)).2.2 (zZ.2 (.inl e.symm))⟩;clear d8 d5 d6 g5 g6 g8 g10 g11 gl;refine wp_region_held_drew (S:=fun W=>W.cell? ⟨M,0,none⟩=some (.string m.name)/\W.cell? ⟨M,1,none⟩=some (.slice px PN cx)/\W.cell? ⟨gb,8,none⟩=some (.int .i64 LO)/\W.cell? ⟨gb,5,none⟩=some (.slice pcv CL ccv)/\W.cell? ⟨gb,6,none⟩=some (.slice pnv NL cnv)) (by kernel_rfl) (by rw [<-HWD.out];exact HSH) (fun hH=>?_);rw [<-HWD.out] at hH |-;clear HWD C9;refine rU 0 (some 73) ?_;refine rU 1 (some 74) ?_;refine rU 2 (some 75) ?_;refine rU 3 (some 76) ?_;refine rU 4 (some 77) ?_;refine rU 5 (some 78) ?_;refine rU 6 (some 79) ?_;refine rU 7 (some 80) ?_;refine rU 8 (some 81) ?_;refine rU 9 (some 82) ?_;refine rU 10 (some 83) ?_;refine rU 11 (some 84) ?_;refine rU 12 (some 85) ?_;refine rU 13 (some 86) ?_;refine rU 14 (some 87) ?_;refine rU 15 (some 88) ?_;refine rU 16 (some 89) ?_;refine rU 17 (some 90) ?_;clear hH;have q0:=zX (CD.b 0 rfl);refine rR1 18 none (fun K hK=>?_);go_simp;clear q0;refine hK _ _ ?_ (fun hH=>?_)
       ·exact⟨zGB (zF3 wd R _ _ _ _ _) HSH.1 (ne_sm HNE.1),zGB (zF3 wd R _ _ _ _ _) HSH.2.1 (ne_sm HNE.1),zGB (zF3 wd R _ _ _ _ _) HSH.2.2.1 (ne_sm HNE.2),zGB (zF3 wd R _ _ _ _ _) HSH.2.2.2.1 (ne_sm HNE.2),zGB (zF3 wd R _ _ _ _ _) HSH.2.2.2.2 (ne_sm HNE.2)⟩
       clear hK K
       try simp only [Act.put,q0,q1,q2]
       refine rU 19 (some 7) ?_;refine wpAnyH_done (by kernel_rfl) ?_ _;go_wp2;refine Mz.retM CD 0 rfl results35 rfl rfl rfl (fun W9 h9=>?_);obtain⟨hb9,hc9,hn9⟩:=Mg.rows h9;rw [HCL.out] at hc9;rw [HNL.out] at hn9;have h8:=zQ4 HN HPN hb9 hc9 hn9;rw [HLO.out] at h8;exact h8
   ·rw [hlg] at g11;have HN:Hid (Co.gM cs cl m=none):=zh (zD6 HGG (.inl hlg));have q0:=zX (C9.b 0 rfl);go_wp2;refine Mz.retM C9 0 rfl results35 rfl rfl rfl (fun W9 h9=>zHV HN h9.gr.fresh)
end Cw
end Go.Proofs.YtcnmfcgmnkncaaaGreatDoor
