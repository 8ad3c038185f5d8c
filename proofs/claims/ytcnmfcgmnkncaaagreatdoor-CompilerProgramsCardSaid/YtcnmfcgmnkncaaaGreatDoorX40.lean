/-
  TrValR2, TrValR3.
-/
import Derived.Test.YtcnmfcgmnkncaaaGreatDoorX28
set_option maxRecDepth 100000
set_option maxHeartbeats 40000000
open Go.Proofs.Tryz
namespace Go.Proofs.YtcnmfcgmnkncaaaGreatDoor
open Go.RowKit
def BlockR (l:List Tr.S):Prop:=∀(v:Value) (w:World),SlS w v l->Calls prog 93 #[v] w fun r w'=>r= .returned (.bool (Tr.zV l))/\Below w.heap.size w w'
theorem zJ0 (s:Tr.S) (x y z:Value) (w:World) (hkb:BdS s) (hx:SlE w x s.exprs) (hy:SlS w y s.body) (hz:SlS w z s.els) (h1:BlockR s.body) (h2:BlockR s.els):
 Calls prog 138 #[stmtV s x y z] w fun r w'=>r= .returned (.bool (Tr.zI s))/\Below w.heap.size w w':=by
 obtain⟨k,nm,l,b,els⟩:=s;have hsz:nm.size<=maxLen:=hkb.name;have hx':SlE w x l:=hx;have hy':SlS w y b:=hy;have hz':SlS w z els:=hz;obtain⟨p,c,rfl,_⟩:=hx'.form;obtain⟨py,cy,rfl,_⟩:=hy'.form;obtain⟨pz,cz,rfl,_⟩:=hz'.form;have hll:=hx'.len;have hlb:=hy'.len;have hle:=hz'.len;unfold maxLen at hll hlb hle;obtain⟨X,hX⟩:∃N,l.length=N:=⟨_,rfl⟩;obtain⟨NB,hNB⟩:∃N,b.length=N:=⟨_,rfl⟩;obtain⟨NE,hNE⟩:∃N,els.length=N:=⟨_,rfl⟩;rw [hX] at hx' hll |-;rw [hNB] at hy' hlb |-;rw [hNE] at hz' hle |-;have hbx:=zD w (.cells #[.int .i64 k,.string nm,.slice p X c,.slice py NB cy,.slice pz NE cz] 71);have HS:=zh (hx'.keep hbx);have HN:=zh hX;have HB:=zh hbx;have HC:=zh (fun j u h=>zJ w #[.int .i64 k,.string nm,.slice p X c,.slice py NB cy,.slice pz NE cz] 71 j u h);have KV:Hid (∀W,Calls prog 44 #[.string nm] W fun e w'=>e= .returned (.bool (Tr.varB nm))/\Below W.heap.size W w'):=fun W=>zCV nm W hsz
 obtain⟨qb1,hq1⟩:∃q,Tr.zV b=q:=⟨_,rfl⟩;obtain⟨qb2,hq2⟩:∃q,Tr.zV els=q:=⟨_,rfl⟩;have KB1:Hid (∀W,Below w.heap.size w W->Calls prog 93 #[.slice py NB cy] W fun e w'=>e= .returned (.bool qb1)/\Below W.heap.size W w'):=fun W hb=>by
  have:=h1 _ W (hy'.keep hb);have e:Tr.zV (Tr.S.mk k nm l b els).body=qb1:=hq1;rw [e] at this;exact this
 have KB2:Hid (∀W,Below w.heap.size w W->Calls prog 93 #[.slice pz NE cz] W fun e w'=>e= .returned (.bool qb2)/\Below W.heap.size W w'):=fun W hb=>by
  have:=h2 _ W (hz'.keep hb);have e:Tr.zV (Tr.S.mk k nm l b els).els=qb2:=hq2;rw [e] at this;exact this
 have hb1e:=zh hq1;have hb2e:=zh hq2;have hval:Hid (Tr.zI (.mk k nm l b els)=(Tr.zT l && (Tr.okS k nm X NB NE && Tr.zV b && Tr.zV els))):=by rw [Tr.zI,hX,hNB,hNE];show(_ && _ && _ && _)=_;rw [Bool.and_assoc,Bool.and_assoc,Bool.and_assoc]
 unfold stmtV;simp only [Tr.S.kind,Tr.S.name];obtain⟨w1,hw1⟩:∃w1,w1=w.alloc (.cells #[.int .i64 k,.string nm,.slice p X c,.slice py NB cy,.slice pz NE cz] 71):=⟨_,rfl⟩;rw [<-hw1] at HS HB HC;clear hx hx' hy hy' hz hz' h1 h2 hkb hX hNB hNE hbx hsz hq1 hq2;go_in;go_wp2;rw [<-hw1];clear hw1
 go_loopw [3] (fun s3 wr=>∃j:Nat,s3= .int .i64 j/\j<=X/\(∀t x,t<j->l[t]? =some x->Tr.zE x=true)/\Below w1.heap.size w1 wr) (fun s3 _=>X -(intOf s3).toNat)
 case atStart=>exact ⟨0,rfl,kO _,fun t x ht=>by omega,Below.refl _ _⟩
 case round=>
  obtain⟨j,rfl,hj,hall,hbr⟩:=hrel;have HA:=zh hall;have HBR:=zh hbr;have c0:=zA hbr (HC 0 _ rfl);have c1:=zA hbr (HC 1 _ rfl);have c2:=zA hbr (HC 2 _ rfl);have c3:=zA hbr (HC 3 _ rfl);have c4:=zA hbr (HC 4 _ rfl);clear hall;by_cases hlt:j<X
  ·obtain⟨x,hx⟩:∃x,l[j]? =some x:=⟨_,kB (by rw [HN.out];exact hlt)⟩;obtain⟨bb,oo,aa,rfl,hblt,hc,hbd,hsl⟩:=(HS.keep hbr).get hx;obtain⟨x0,x1,x2,x3,x4,x5⟩:=hc;have hcall:=zIP _ x aa wr (kL _) hbd hsl;unfold zK at hcall;have HX:=zh hx;clear hx hbd hsl hbr c0 c1 c3 c4;cases hv:Tr.zE x
   ·rw [hv] at hcall;have HCL:=zh hcall;have hf:=zh (show Tr.zI (.mk k nm l b els)=false by rw [hval.out,zF0 HX.out hv];rfl);clear hcall hv;go_wp2_with fail;refine HCL.mono ?_;rintro e w2 ⟨rfl,hb2⟩;go_wp2;go_ret;exact⟨by rw [hf.out];rfl,HB.trans ((zC HBR hb2).mono HB.size)⟩
   ·rw [hv] at hcall;have HCL:=zh hcall;have HV:=zh hv;clear hcall hv;go_wp2_with fail;refine HCL.mono ?_;rintro e w2 ⟨rfl,hb2⟩;go_wp2_with fail;go_roundw
    case rel=>
     refine⟨j+1,by go_num,by omega,fun t y ht hty=>?_,zC HBR hb2⟩;by_cases e:t=j
     ·subst e;rw [HX.out] at hty;cases hty;exact HV
     ·exact HA t y (by omega) hty
    case measure=>simp [intOf];omega
  ·have hes:Hid (Tr.zT l=true):=zEU HN (fun t x ht=>HA t x (by omega));have HBF:=zh (HB.trans (HBR.mono HB.size));have HBX:=HBF;clear hbr;have hcs:k=0\/k=1\/k=2\/k=3\/k=4\/k=5\/k=6\/k=7\/k=8\/k=9\/(k<0\/9<k):=(by omega);rcases hcs with rfl|rfl|rfl|rfl|rfl|rfl|rfl|rfl|rfl|rfl|hcs
   ·skip;by_cases hX:X=1
    ·have hX':((X:Int) == 1)=true:=kX.2 (by omega);cases hv:Tr.varB nm
     ·rw [hv] at KV;have hf:Hid (Tr.zI _=false):=hval.trans (by rw [hes.out,kF];rw [okS_0,hv,Bool.and_false];rfl);clear hv;go_wp2_with fail;refine(KV _).mono ?_;rintro e w2 ⟨rfl,hb2⟩;go_wp2;go_ret;exact⟨by rw [hf.out];rfl,zC HBF hb2⟩
     ·rw [hv] at KV;have hvt:=zh hv;clear hv;have hXk:=hX';by_cases hnb:0<NB
      ·skip;have hf:Hid (Tr.zI _=false):=hval.trans (by rw [hes.out,kF];rw [okS_0,kE (fun h=>by omega)];rfl);go_wp2_with fail;refine(KV _).mono ?_;rintro e w2 ⟨rfl,hb2⟩;have d3:=zA hb2 c3;have HB2:=zh hb2;clear hb2;go_wp2;go_ret;exact⟨by rw [hf.out];rfl,zC HBF HB2⟩
      ·have hnb':NB<=0:=(by omega);by_cases hne:0<NE
       ·skip;have hf:Hid (Tr.zI _=false):=hval.trans (by rw [hes.out,kF];rw [okS_0,kE (fun h=>by omega)];rfl);go_wp2_with fail;refine(KV _).mono ?_;rintro e w2 ⟨rfl,hb2⟩;have d3:=zA hb2 c3;have d4:=zA hb2 c4;have HB2:=zh hb2;clear hb2;go_wp2;go_ret;exact⟨by rw [hf.out];rfl,zC HBF HB2⟩
       ·have hne':NE<=0:=(by omega);have hok:Hid (Tr.zI _=(qb1 && qb2)):=hval.trans (by rw [hes.out,kF,hb1e.out,hb2e.out,show Tr.okS 0 nm X NB NE=true by rw [okS_0,hvt.out,Bool.and_true];exact kS ⟨by omega,by omega,by omega⟩];rfl);cases qb1
        ·skip;go_wp2_with fail;refine(KV _).mono ?_;rintro e w2 ⟨rfl,hb2⟩;have d3:=zA hb2 c3;have d4:=zA hb2 c4;have HB2:=zh hb2;have HBX2:=zh (zC HBX hb2);clear hb2;go_wp2_with fail;refine(KB1 _ HBX2).mono ?_;rintro e w3 ⟨rfl,hb3⟩;go_wp2;go_ret;exact⟨by rw [hok.out];rfl,zC (zC HBF HB2) hb3⟩
        ·skip;go_wp2_with fail;refine(KV _).mono ?_;rintro e w2 ⟨rfl,hb2⟩;have d3:=zA hb2 c3;have d4:=zA hb2 c4;have HB2:=zh hb2;have HBX2:=zh (zC HBX hb2);clear hb2;go_wp2_with fail;refine(KB1 _ HBX2).mono ?_;rintro e w3 ⟨rfl,hb3⟩;have f4:=zA hb3 d4;have HB3:=zh hb3;have HBX3:=zh (zC HBX2 hb3);clear hb3;go_wp2_with fail;refine(KB2 _ HBX3).mono ?_;rintro e w4 ⟨rfl,hb4⟩;go_wp2;go_ret;exact⟨by rw [hok.out];rfl,zC (zC (zC HBF HB2) HB3) hb4⟩
    ·have hX':((X:Int) == 1)=false:=kA.2 (by omega);have hf:Hid (Tr.zI _=false):=hval.trans (by rw [hes.out,kF];rw [okS_0,kE (fun h=>by omega)];rfl);clear hX;go_wp2;go_ret;exact⟨by rw [hf.out];rfl,HBF⟩
   ·skip;by_cases hX:X=1
    ·have hX':((X:Int) == 1)=true:=kX.2 (by omega);cases hv:Tr.varB nm
     ·rw [hv] at KV;have hf:Hid (Tr.zI _=false):=hval.trans (by rw [hes.out,kF];rw [okS_1,hv,Bool.and_false];rfl);clear hv;go_wp2_with fail;refine(KV _).mono ?_;rintro e w2 ⟨rfl,hb2⟩;go_wp2;go_ret;exact⟨by rw [hf.out];rfl,zC HBF hb2⟩
     ·rw [hv] at KV;have hvt:=zh hv;clear hv;have hXk:=hX';by_cases hnb:0<NB
      ·skip;have hf:Hid (Tr.zI _=false):=hval.trans (by rw [hes.out,kF];rw [okS_1,kE (fun h=>by omega)];rfl);go_wp2_with fail;refine(KV _).mono ?_;rintro e w2 ⟨rfl,hb2⟩;have d3:=zA hb2 c3;have HB2:=zh hb2;clear hb2;go_wp2;go_ret;exact⟨by rw [hf.out];rfl,zC HBF HB2⟩
      ·have hnb':NB<=0:=(by omega);by_cases hne:0<NE
       ·skip;have hf:Hid (Tr.zI _=false):=hval.trans (by rw [hes.out,kF];rw [okS_1,kE (fun h=>by omega)];rfl);go_wp2_with fail;refine(KV _).mono ?_;rintro e w2 ⟨rfl,hb2⟩;have d3:=zA hb2 c3;have d4:=zA hb2 c4;have HB2:=zh hb2;clear hb2;go_wp2;go_ret;exact⟨by rw [hf.out];rfl,zC HBF HB2⟩
       ·have hne':NE<=0:=(by omega);have hok:Hid (Tr.zI _=(qb1 && qb2)):=hval.trans (by rw [hes.out,kF,hb1e.out,hb2e.out,show Tr.okS 1 nm X NB NE=true by rw [okS_1,hvt.out,Bool.and_true];exact kS ⟨by omega,by omega,by omega⟩];rfl);cases qb1
        ·skip;go_wp2_with fail;refine(KV _).mono ?_;rintro e w2 ⟨rfl,hb2⟩;have d3:=zA hb2 c3;have d4:=zA hb2 c4;have HB2:=zh hb2;have HBX2:=zh (zC HBX hb2);clear hb2;go_wp2_with fail;refine(KB1 _ HBX2).mono ?_;rintro e w3 ⟨rfl,hb3⟩;go_wp2;go_ret;exact⟨by rw [hok.out];rfl,zC (zC HBF HB2) hb3⟩
        ·skip;go_wp2_with fail;refine(KV _).mono ?_;rintro e w2 ⟨rfl,hb2⟩;have d3:=zA hb2 c3;have d4:=zA hb2 c4;have HB2:=zh hb2;have HBX2:=zh (zC HBX hb2);clear hb2;go_wp2_with fail;refine(KB1 _ HBX2).mono ?_;rintro e w3 ⟨rfl,hb3⟩;have f4:=zA hb3 d4;have HB3:=zh hb3;have HBX3:=zh (zC HBX2 hb3);clear hb3;go_wp2_with fail;refine(KB2 _ HBX3).mono ?_;rintro e w4 ⟨rfl,hb4⟩;go_wp2;go_ret;exact⟨by rw [hok.out];rfl,zC (zC (zC HBF HB2) HB3) hb4⟩
    ·have hX':((X:Int) == 1)=false:=kA.2 (by omega);have hf:Hid (Tr.zI _=false):=hval.trans (by rw [hes.out,kF];rw [okS_1,kE (fun h=>by omega)];rfl);clear hX;go_wp2;go_ret;exact⟨by rw [hf.out];rfl,HBF⟩
   ·skip;by_cases hX:X=2
    ·have hX':((X:Int) == 2)=true:=kX.2 (by omega);cases hv:Tr.varB nm
     ·rw [hv] at KV;have hf:Hid (Tr.zI _=false):=hval.trans (by rw [hes.out,kF];rw [okS_2,hv,Bool.and_false];rfl);clear hv;go_wp2_with fail;refine(KV _).mono ?_;rintro e w2 ⟨rfl,hb2⟩;go_wp2;go_ret;exact⟨by rw [hf.out];rfl,zC HBF hb2⟩
     ·rw [hv] at KV;have hvt:=zh hv;clear hv;have hXk:=hX';by_cases hnb:0<NB
      ·skip;have hf:Hid (Tr.zI _=false):=hval.trans (by rw [hes.out,kF];rw [okS_2,kE (fun h=>by omega)];rfl);go_wp2_with fail;refine(KV _).mono ?_;rintro e w2 ⟨rfl,hb2⟩;have d3:=zA hb2 c3;have HB2:=zh hb2;clear hb2;go_wp2;go_ret;exact⟨by rw [hf.out];rfl,zC HBF HB2⟩
      ·have hnb':NB<=0:=(by omega);by_cases hne:0<NE
       ·skip;have hf:Hid (Tr.zI _=false):=hval.trans (by rw [hes.out,kF];rw [okS_2,kE (fun h=>by omega)];rfl);go_wp2_with fail;refine(KV _).mono ?_;rintro e w2 ⟨rfl,hb2⟩;have d3:=zA hb2 c3;have d4:=zA hb2 c4;have HB2:=zh hb2;clear hb2;go_wp2;go_ret;exact⟨by rw [hf.out];rfl,zC HBF HB2⟩
       ·have hne':NE<=0:=(by omega);have hok:Hid (Tr.zI _=(qb1 && qb2)):=hval.trans (by rw [hes.out,kF,hb1e.out,hb2e.out,show Tr.okS 2 nm X NB NE=true by rw [okS_2,hvt.out,Bool.and_true];exact kS ⟨by omega,by omega,by omega⟩];rfl);cases qb1
        ·skip;go_wp2_with fail;refine(KV _).mono ?_;rintro e w2 ⟨rfl,hb2⟩;have d3:=zA hb2 c3;have d4:=zA hb2 c4;have HB2:=zh hb2;have HBX2:=zh (zC HBX hb2);clear hb2;go_wp2_with fail;refine(KB1 _ HBX2).mono ?_;rintro e w3 ⟨rfl,hb3⟩;go_wp2;go_ret;exact⟨by rw [hok.out];rfl,zC (zC HBF HB2) hb3⟩
        ·skip;go_wp2_with fail;refine(KV _).mono ?_;rintro e w2 ⟨rfl,hb2⟩;have d3:=zA hb2 c3;have d4:=zA hb2 c4;have HB2:=zh hb2;have HBX2:=zh (zC HBX hb2);clear hb2;go_wp2_with fail;refine(KB1 _ HBX2).mono ?_;rintro e w3 ⟨rfl,hb3⟩;have f4:=zA hb3 d4;have HB3:=zh hb3;have HBX3:=zh (zC HBX2 hb3);clear hb3;go_wp2_with fail;refine(KB2 _ HBX3).mono ?_;rintro e w4 ⟨rfl,hb4⟩;go_wp2;go_ret;exact⟨by rw [hok.out];rfl,zC (zC (zC HBF HB2) HB3) hb4⟩
    ·have hX':((X:Int) == 2)=false:=kA.2 (by omega);have hf:Hid (Tr.zI _=false):=hval.trans (by rw [hes.out,kF];rw [okS_2,kE (fun h=>by omega)];rfl);clear hX;go_wp2;go_ret;exact⟨by rw [hf.out];rfl,HBF⟩
   ·skip;by_cases hX:X=1
    ·have hX':((X:Int) == 1)=true:=kX.2 (by omega);cases hE:nm.toList.isEmpty
     ·have hE2:=hE;have hf:Hid (Tr.zI _=false):=hval.trans (by rw [hes.out,kF];rw [okS_3,kE (fun h=>zB1 hE (by omega))];rfl);clear hE;go_wp2;go_ret;exact⟨by rw [hf.out];rfl,HBF⟩
     ·have hsz0:=zh (zCX hE);by_cases hnb:True
      ·skip;have hok:Hid (Tr.zI _=(qb1 && qb2)):=hval.trans (by rw [hes.out,kF,hb1e.out,hb2e.out,show Tr.okS 3 nm X NB NE=true by rw [okS_3];exact kS ⟨by omega,hsz0⟩];rfl);cases qb1
       ·go_wp2_with fail;refine(KB1 _ HBX).mono ?_;rintro e w3 ⟨rfl,hb3⟩;go_wp2;go_ret;exact⟨by rw [hok.out];rfl,zC HBF hb3⟩
       ·go_wp2_with fail;refine(KB1 _ HBX).mono ?_;rintro e w3 ⟨rfl,hb3⟩;have f4:=zA hb3 c4;have HB3:=zh (zC HBF hb3);have HBX3:=zh (zC HBX hb3);clear hb3;go_wp2_with fail;refine(KB2 _ HBX3).mono ?_;rintro e w4 ⟨rfl,hb4⟩;go_wp2;go_ret;exact⟨by rw [hok.out];rfl,zC HB3 hb4⟩
      ·exact absurd trivial hnb
    ·have hX':((X:Int) == 1)=false:=kA.2 (by omega);have hf:Hid (Tr.zI _=false):=hval.trans (by rw [hes.out,kF];rw [okS_3,kE (fun h=>by omega)];rfl);clear hX;go_wp2;go_ret;exact⟨by rw [hf.out];rfl,HBF⟩
   ·skip;by_cases hX:X=1
    ·have hX':((X:Int) == 1)=true:=kX.2 (by omega);cases hE:nm.toList.isEmpty
     ·have hE2:=hE;have hf:Hid (Tr.zI _=false):=hval.trans (by rw [hes.out,kF];rw [okS_4,kE (fun h=>zB1 hE (by omega))];rfl);clear hE;go_wp2;go_ret;exact⟨by rw [hf.out];rfl,HBF⟩
     ·have hsz0:=zh (zCX hE);by_cases hnb:True
      ·skip;by_cases hne:0<NE
       ·skip;have hf:Hid (Tr.zI _=false):=hval.trans (by rw [hes.out,kF];rw [okS_4,kE (fun h=>by omega)];rfl);go_wp2;go_ret;exact⟨by rw [hf.out];rfl,HBF⟩
       ·have hne':NE<=0:=(by omega);have hok:Hid (Tr.zI _=(qb1 && qb2)):=hval.trans (by rw [hes.out,kF,hb1e.out,hb2e.out,show Tr.okS 4 nm X NB NE=true by rw [okS_4];exact kS ⟨by omega,hsz0,by omega⟩];rfl);cases qb1
        ·go_wp2_with fail;refine(KB1 _ HBX).mono ?_;rintro e w3 ⟨rfl,hb3⟩;go_wp2;go_ret;exact⟨by rw [hok.out];rfl,zC HBF hb3⟩
        ·go_wp2_with fail;refine(KB1 _ HBX).mono ?_;rintro e w3 ⟨rfl,hb3⟩;have f4:=zA hb3 c4;have HB3:=zh (zC HBF hb3);have HBX3:=zh (zC HBX hb3);clear hb3;go_wp2_with fail;refine(KB2 _ HBX3).mono ?_;rintro e w4 ⟨rfl,hb4⟩;go_wp2;go_ret;exact⟨by rw [hok.out];rfl,zC HB3 hb4⟩
      ·exact absurd trivial hnb
    ·have hX':((X:Int) == 1)=false:=kA.2 (by omega);have hf:Hid (Tr.zI _=false):=hval.trans (by rw [hes.out,kF];rw [okS_4,kE (fun h=>by omega)];rfl);clear hX;go_wp2;go_ret;exact⟨by rw [hf.out];rfl,HBF⟩
   ·skip;by_cases hX:X=0
    ·have hX':X<=0:=(by omega);have hf:Hid (Tr.zI _=false):=hval.trans (by rw [hes.out,kF];rw [okS_5,kE (fun h=>by omega)];rfl);clear hX;go_wp2;go_ret;exact⟨by rw [hf.out];rfl,HBF⟩
    ·have hX':1<=X:=(by omega);cases hv:Tr.varB nm
     ·rw [hv] at KV;have hf:Hid (Tr.zI _=false):=hval.trans (by rw [hes.out,kF];rw [okS_5,hv,Bool.and_false];rfl);clear hv;go_wp2_with fail;refine(KV _).mono ?_;rintro e w2 ⟨rfl,hb2⟩;go_wp2;go_ret;exact⟨by rw [hf.out];rfl,zC HBF hb2⟩
     ·rw [hv] at KV;have hvt:=zh hv;clear hv;have hXk:=hX';by_cases hnb:0<NB
      ·skip;have hf:Hid (Tr.zI _=false):=hval.trans (by rw [hes.out,kF];rw [okS_5,kE (fun h=>by omega)];rfl);go_wp2_with fail;refine(KV _).mono ?_;rintro e w2 ⟨rfl,hb2⟩;have d3:=zA hb2 c3;have HB2:=zh hb2;clear hb2;go_wp2;go_ret;exact⟨by rw [hf.out];rfl,zC HBF HB2⟩
      ·have hnb':NB<=0:=(by omega);by_cases hne:0<NE
       ·skip;have hf:Hid (Tr.zI _=false):=hval.trans (by rw [hes.out,kF];rw [okS_5,kE (fun h=>by omega)];rfl);go_wp2_with fail;refine(KV _).mono ?_;rintro e w2 ⟨rfl,hb2⟩;have d3:=zA hb2 c3;have d4:=zA hb2 c4;have HB2:=zh hb2;clear hb2;go_wp2;go_ret;exact⟨by rw [hf.out];rfl,zC HBF HB2⟩
       ·have hne':NE<=0:=(by omega);have hok:Hid (Tr.zI _=(qb1 && qb2)):=hval.trans (by rw [hes.out,kF,hb1e.out,hb2e.out,show Tr.okS 5 nm X NB NE=true by rw [okS_5,hvt.out,Bool.and_true];exact kS ⟨by omega,by omega,by omega⟩];rfl);cases qb1
        ·skip;go_wp2_with fail;refine(KV _).mono ?_;rintro e w2 ⟨rfl,hb2⟩;have d3:=zA hb2 c3;have d4:=zA hb2 c4;have HB2:=zh hb2;have HBX2:=zh (zC HBX hb2);clear hb2;go_wp2_with fail;refine(KB1 _ HBX2).mono ?_;rintro e w3 ⟨rfl,hb3⟩;go_wp2;go_ret;exact⟨by rw [hok.out];rfl,zC (zC HBF HB2) hb3⟩
        ·skip;go_wp2_with fail;refine(KV _).mono ?_;rintro e w2 ⟨rfl,hb2⟩;have d3:=zA hb2 c3;have d4:=zA hb2 c4;have HB2:=zh hb2;have HBX2:=zh (zC HBX hb2);clear hb2;go_wp2_with fail;refine(KB1 _ HBX2).mono ?_;rintro e w3 ⟨rfl,hb3⟩;have f4:=zA hb3 d4;have HB3:=zh hb3;have HBX3:=zh (zC HBX2 hb3);clear hb3;go_wp2_with fail;refine(KB2 _ HBX3).mono ?_;rintro e w4 ⟨rfl,hb4⟩;go_wp2;go_ret;exact⟨by rw [hok.out];rfl,zC (zC (zC HBF HB2) HB3) hb4⟩
   ·skip;by_cases hX:X=1
    ·have hX':((X:Int) == 1)=true:=kX.2 (by omega);cases hE:nm.toList.isEmpty
     ·have hE2:=hE;have hf:Hid (Tr.zI _=false):=hval.trans (by rw [hes.out,kF];rw [okS_6,kE (fun h=>zB1 hE (by omega))];rfl);clear hE;go_wp2;go_ret;exact⟨by rw [hf.out];rfl,HBF⟩
     ·have hsz0:=zh (zCX hE);by_cases hnb:0<NB
      ·skip;have hf:Hid (Tr.zI _=false):=hval.trans (by rw [hes.out,kF];rw [okS_6,kE (fun h=>by omega)];rfl);go_wp2;go_ret;exact⟨by rw [hf.out];rfl,HBF⟩
      ·have hnb':NB<=0:=(by omega);by_cases hne:0<NE
       ·skip;have hf:Hid (Tr.zI _=false):=hval.trans (by rw [hes.out,kF];rw [okS_6,kE (fun h=>by omega)];rfl);go_wp2;go_ret;exact⟨by rw [hf.out];rfl,HBF⟩
       ·have hne':NE<=0:=(by omega);have hok:Hid (Tr.zI _=(qb1 && qb2)):=hval.trans (by rw [hes.out,kF,hb1e.out,hb2e.out,show Tr.okS 6 nm X NB NE=true by rw [okS_6];exact kS ⟨by omega,hsz0,by omega,by omega⟩];rfl);cases qb1
        ·go_wp2_with fail;refine(KB1 _ HBX).mono ?_;rintro e w3 ⟨rfl,hb3⟩;go_wp2;go_ret;exact⟨by rw [hok.out];rfl,zC HBF hb3⟩
        ·go_wp2_with fail;refine(KB1 _ HBX).mono ?_;rintro e w3 ⟨rfl,hb3⟩;have f4:=zA hb3 c4;have HB3:=zh (zC HBF hb3);have HBX3:=zh (zC HBX hb3);clear hb3;go_wp2_with fail;refine(KB2 _ HBX3).mono ?_;rintro e w4 ⟨rfl,hb4⟩;go_wp2;go_ret;exact⟨by rw [hok.out];rfl,zC HB3 hb4⟩
    ·have hX':((X:Int) == 1)=false:=kA.2 (by omega);have hf:Hid (Tr.zI _=false):=hval.trans (by rw [hes.out,kF];rw [okS_6,kE (fun h=>by omega)];rfl);clear hX;go_wp2;go_ret;exact⟨by rw [hf.out];rfl,HBF⟩
   ·skip;by_cases hX:X=2
    ·have hX':((X:Int) == 2)=true:=kX.2 (by omega);cases hE:nm.toList.isEmpty
     ·have hE2:=hE;have hf:Hid (Tr.zI _=false):=hval.trans (by rw [hes.out,kF];rw [okS_7,kE (fun h=>zB1 hE (by omega))];rfl);clear hE;go_wp2;go_ret;exact⟨by rw [hf.out];rfl,HBF⟩
     ·have hsz0:=zh (zCX hE);by_cases hnb:0<NB
      ·skip;have hf:Hid (Tr.zI _=false):=hval.trans (by rw [hes.out,kF];rw [okS_7,kE (fun h=>by omega)];rfl);go_wp2;go_ret;exact⟨by rw [hf.out];rfl,HBF⟩
      ·have hnb':NB<=0:=(by omega);by_cases hne:0<NE
       ·skip;have hf:Hid (Tr.zI _=false):=hval.trans (by rw [hes.out,kF];rw [okS_7,kE (fun h=>by omega)];rfl);go_wp2;go_ret;exact⟨by rw [hf.out];rfl,HBF⟩
       ·have hne':NE<=0:=(by omega);have hok:Hid (Tr.zI _=(qb1 && qb2)):=hval.trans (by rw [hes.out,kF,hb1e.out,hb2e.out,show Tr.okS 7 nm X NB NE=true by rw [okS_7];exact kS ⟨by omega,hsz0,by omega,by omega⟩];rfl);cases qb1
        ·go_wp2_with fail;refine(KB1 _ HBX).mono ?_;rintro e w3 ⟨rfl,hb3⟩;go_wp2;go_ret;exact⟨by rw [hok.out];rfl,zC HBF hb3⟩
        ·go_wp2_with fail;refine(KB1 _ HBX).mono ?_;rintro e w3 ⟨rfl,hb3⟩;have f4:=zA hb3 c4;have HB3:=zh (zC HBF hb3);have HBX3:=zh (zC HBX hb3);clear hb3;go_wp2_with fail;refine(KB2 _ HBX3).mono ?_;rintro e w4 ⟨rfl,hb4⟩;go_wp2;go_ret;exact⟨by rw [hok.out];rfl,zC HB3 hb4⟩
    ·have hX':((X:Int) == 2)=false:=kA.2 (by omega);have hf:Hid (Tr.zI _=false):=hval.trans (by rw [hes.out,kF];rw [okS_7,kE (fun h=>by omega)];rfl);clear hX;go_wp2;go_ret;exact⟨by rw [hf.out];rfl,HBF⟩
   ·skip;by_cases hX:X=2
    ·have hX':((X:Int) == 2)=true:=kX.2 (by omega);cases hv:Tr.varB nm
     ·rw [hv] at KV;have hf:Hid (Tr.zI _=false):=hval.trans (by rw [hes.out,kF];rw [okS_8,hv,Bool.and_false];rfl);clear hv;go_wp2_with fail;refine(KV _).mono ?_;rintro e w2 ⟨rfl,hb2⟩;go_wp2;go_ret;exact⟨by rw [hf.out];rfl,zC HBF hb2⟩
     ·rw [hv] at KV;have hvt:=zh hv;clear hv;have hXk:=hX';by_cases hnb:0<NB
      ·skip;have hf:Hid (Tr.zI _=false):=hval.trans (by rw [hes.out,kF];rw [okS_8,kE (fun h=>by omega)];rfl);go_wp2_with fail;refine(KV _).mono ?_;rintro e w2 ⟨rfl,hb2⟩;have d3:=zA hb2 c3;have HB2:=zh hb2;clear hb2;go_wp2;go_ret;exact⟨by rw [hf.out];rfl,zC HBF HB2⟩
      ·have hnb':NB<=0:=(by omega);by_cases hne:0<NE
       ·skip;have hf:Hid (Tr.zI _=false):=hval.trans (by rw [hes.out,kF];rw [okS_8,kE (fun h=>by omega)];rfl);go_wp2_with fail;refine(KV _).mono ?_;rintro e w2 ⟨rfl,hb2⟩;have d3:=zA hb2 c3;have d4:=zA hb2 c4;have HB2:=zh hb2;clear hb2;go_wp2;go_ret;exact⟨by rw [hf.out];rfl,zC HBF HB2⟩
       ·have hne':NE<=0:=(by omega);have hok:Hid (Tr.zI _=(qb1 && qb2)):=hval.trans (by rw [hes.out,kF,hb1e.out,hb2e.out,show Tr.okS 8 nm X NB NE=true by rw [okS_8,hvt.out,Bool.and_true];exact kS ⟨by omega,by omega,by omega⟩];rfl);cases qb1
        ·skip;go_wp2_with fail;refine(KV _).mono ?_;rintro e w2 ⟨rfl,hb2⟩;have d3:=zA hb2 c3;have d4:=zA hb2 c4;have HB2:=zh hb2;have HBX2:=zh (zC HBX hb2);clear hb2;go_wp2_with fail;refine(KB1 _ HBX2).mono ?_;rintro e w3 ⟨rfl,hb3⟩;go_wp2;go_ret;exact⟨by rw [hok.out];rfl,zC (zC HBF HB2) hb3⟩
        ·skip;go_wp2_with fail;refine(KV _).mono ?_;rintro e w2 ⟨rfl,hb2⟩;have d3:=zA hb2 c3;have d4:=zA hb2 c4;have HB2:=zh hb2;have HBX2:=zh (zC HBX hb2);clear hb2;go_wp2_with fail;refine(KB1 _ HBX2).mono ?_;rintro e w3 ⟨rfl,hb3⟩;have f4:=zA hb3 d4;have HB3:=zh hb3;have HBX3:=zh (zC HBX2 hb3);clear hb3;go_wp2_with fail;refine(KB2 _ HBX3).mono ?_;rintro e w4 ⟨rfl,hb4⟩;go_wp2;go_ret;exact⟨by rw [hok.out];rfl,zC (zC (zC HBF HB2) HB3) hb4⟩
    ·have hX':((X:Int) == 2)=false:=kA.2 (by omega);have hf:Hid (Tr.zI _=false):=hval.trans (by rw [hes.out,kF];rw [okS_8,kE (fun h=>by omega)];rfl);clear hX;go_wp2;go_ret;exact⟨by rw [hf.out];rfl,HBF⟩
   ·skip;by_cases hX:X=0
    ·have hX':((X:Int) == 0)=true:=kX.2 (by omega);cases hE:nm.toList.isEmpty
     ·have hE2:=hE;have hf:Hid (Tr.zI _=false):=hval.trans (by rw [hes.out,kF];rw [okS_9,kE (fun h=>zB1 hE (by omega))];rfl);clear hE;go_wp2;go_ret;exact⟨by rw [hf.out];rfl,HBF⟩
     ·have hsz0:=zh (zCX hE);by_cases hnb:0<NB
      ·skip;have hf:Hid (Tr.zI _=false):=hval.trans (by rw [hes.out,kF];rw [okS_9,kE (fun h=>by omega)];rfl);go_wp2;go_ret;exact⟨by rw [hf.out];rfl,HBF⟩
      ·have hnb':NB<=0:=(by omega);by_cases hne:0<NE
       ·skip;have hf:Hid (Tr.zI _=false):=hval.trans (by rw [hes.out,kF];rw [okS_9,kE (fun h=>by omega)];rfl);go_wp2;go_ret;exact⟨by rw [hf.out];rfl,HBF⟩
       ·have hne':NE<=0:=(by omega);have hok:Hid (Tr.zI _=(qb1 && qb2)):=hval.trans (by rw [hes.out,kF,hb1e.out,hb2e.out,show Tr.okS 9 nm X NB NE=true by rw [okS_9];exact kS ⟨by omega,hsz0,by omega,by omega⟩];rfl);cases qb1
        ·go_wp2_with fail;refine(KB1 _ HBX).mono ?_;rintro e w3 ⟨rfl,hb3⟩;go_wp2;go_ret;exact⟨by rw [hok.out];rfl,zC HBF hb3⟩
        ·go_wp2_with fail;refine(KB1 _ HBX).mono ?_;rintro e w3 ⟨rfl,hb3⟩;have f4:=zA hb3 c4;have HB3:=zh (zC HBF hb3);have HBX3:=zh (zC HBX hb3);clear hb3;go_wp2_with fail;refine(KB2 _ HBX3).mono ?_;rintro e w4 ⟨rfl,hb4⟩;go_wp2;go_ret;exact⟨by rw [hok.out];rfl,zC HB3 hb4⟩
    ·have hX':((X:Int) == 0)=false:=kA.2 (by omega);have hf:Hid (Tr.zI _=false):=hval.trans (by rw [hes.out,kF];rw [okS_9,kE (fun h=>by omega)];rfl);clear hX;go_wp2;go_ret;exact⟨by rw [hf.out];rfl,HBF⟩
   ·skip;have hf:Hid (Tr.zI _=false):=hval.trans (by rw [hes.out,kF];rw [zLG hcs];rfl);have e0:(k == 0)=false:=kA.2 (by omega);have e1:(k == 1)=false:=kA.2 (by omega);have e2:(k == 2)=false:=kA.2 (by omega);have e3:(k == 3)=false:=kA.2 (by omega);have e4:(k == 4)=false:=kA.2 (by omega);have e5:(k == 5)=false:=kA.2 (by omega);have e6:(k == 6)=false:=kA.2 (by omega);have e7:(k == 7)=false:=kA.2 (by omega);have e8:(k == 8)=false:=kA.2 (by omega);have e9:(k == 9)=false:=kA.2 (by omega);clear hcs;go_wp2;go_ret;exact⟨by rw [hf.out];rfl,HBF⟩
theorem zP0:∀(d:Nat) (l:List Tr.S),Tr.S.deep.deeps l<=d->BlockR l:=by
 intro d
 induction d using Nat.strongRecOn with
 |ind d ih=>
  intro l hd v w hS;obtain⟨p,c,rfl,_⟩:=hS.form;have hll:=hS.len;unfold maxLen at hll;obtain⟨N,hN⟩:∃N,l.length=N:=⟨_,rfl⟩;rw [hN] at hS hll |-;have HS:=zh hS;have HN:=zh hN;have HD:=zh hd;have HIH:=zh ih;clear hS hN hd ih;go_in;go_wp2
  go_loopw [3] (fun s3 wr=>∃j:Nat,s3= .int .i64 j/\j<=N/\(∀t x,t<j->l[t]? =some x->Tr.zI x=true)/\Below w.heap.size w wr) (fun s3 _=>N -(intOf s3).toNat)
  case atStart=>exact ⟨0,rfl,kO _,fun t x ht=>by omega,Below.refl _ _⟩
  case round=>
   obtain⟨j,rfl,hj,hall,hbr⟩:=hrel;have HA:=zh hall;have HBR:=zh hbr;clear hall;by_cases hlt:j<N
   ·obtain⟨x,hx⟩:∃x,l[j]? =some x:=⟨_,kB (by rw [HN.out];exact hlt)⟩;obtain⟨b,oo,vx,vy,vz,rfl,hblt,hc,hbd,hsx,hsy,hsz⟩:=(HS.keep hbr).get hx;obtain⟨x0,x1,x2,x3,x4⟩:=hc;have hdd:=Tr.S.deep_in HD hx;have hcall:=zJ0 x vx vy vz wr hbd hsx hsy hsz (HIH (d -1) (by omega) x.body hdd.2.1) (HIH (d -1) (by omega) x.els hdd.2.2);unfold stmtV at hcall;have HX:=zh hx;clear hx hbd hsx hsy hsz hbr hdd;cases hv:Tr.zI x
    ·rw [hv] at hcall;have HCL:=zh hcall;have hf:=zh (zOK HX hv);clear hcall hv;go_wp2_with fail;refine HCL.mono ?_;rintro e w2 ⟨rfl,hb2⟩;go_wp2;go_ret;exact⟨by rw [hf.out];rfl,zC HBR hb2⟩
    ·rw [hv] at hcall;have HCL:=zh hcall;have HV:=zh hv;clear hcall hv;go_wp2_with fail;refine HCL.mono ?_;rintro e w2 ⟨rfl,hb2⟩;go_wp2_with fail;go_roundw
     case rel=>
      refine⟨j+1,by go_num,by omega,fun t y ht hty=>?_,zC HBR hb2⟩;by_cases e:t=j
      ·subst e;rw [HX.out] at hty;cases hty;exact HV
      ·exact HA t y (by omega) hty
     case measure=>simp [intOf];omega
   ·have hf:=zh (zMM HN (fun t x ht=>HA t x (by omega)));clear hbr;go_wp2;go_ret;exact⟨by rw [hf.out];rfl,HBR⟩
theorem blockR (l:List Tr.S):BlockR l:=zP0 _ l (kL _)
theorem zOL (v:Value) (cs:List Tr.C) (w:World) (h:SlC w v cs):
 Calls prog 58 #[.agg #[v]] w fun r w'=>r= .returned (.bool (Tr.validP cs))/\Below w.heap.size w w':=by
 obtain⟨p,c,rfl⟩:=h.form;have hll:=h.len;unfold maxLen at hll;obtain⟨N,hN⟩:∃N,cs.length=N:=⟨_,rfl⟩;rw [hN] at h hll |-;have hbx:=zD w (.cells #[.slice p N c] 24);have HS:=zh (h.keep hbx);have HN:=zh hN;have HB:=zh hbx;have b0:=zJ w #[.slice p N c] 24 0 _ rfl;obtain⟨w1,hw1⟩:∃w1,w1=w.alloc (.cells #[.slice p N c] 24):=⟨_,rfl⟩;rw [<-hw1] at HS HB b0;clear h hN hbx;go_in;go_wp2;rw [<-hw1];clear hw1
 go_loopw [3] (fun s3 wr=>∃j:Nat,s3= .int .i64 j/\j<=N/\(∀t x,t<j->cs[t]? =some x->Tr.validC x=true)/\Below w1.heap.size w1 wr) (fun s3 _=>N -(intOf s3).toNat)
 case atStart=>exact ⟨0,rfl,kO _,fun t x ht=>by omega,Below.refl _ _⟩
 case round=>
  obtain⟨j,rfl,hj,hall,hbr⟩:=hrel;obtain⟨wo,rfl⟩:∃wo:World,wo=wr:=⟨_,rfl⟩;have HA:=zh hall;have HBR:=zh hbr;have c0:=zA hbr b0;clear hall;by_cases hlt:j<N
  ·obtain⟨x,hx⟩:∃x,cs[j]? =some x:=⟨_,kB (by rw [HN.out];exact hlt)⟩;obtain⟨b,oo,vf,vm,rfl,hblt,hc,hnm,hsf,hsm⟩:=(HS.keep hbr).get hx;obtain⟨x0,x1,x2,x3⟩:=hc;have HX:=zh hx;obtain⟨nm,act,fs,ms⟩:=x;simp only [] at hnm hsf hsm x0 x1;obtain⟨pm,cm,rfl⟩:=hsm.form;have hml:=hsm.len;unfold maxLen at hml;obtain⟨MN,hMN⟩:∃N,ms.length=N:=⟨_,rfl⟩;rw [hMN] at hsm hml x3;obtain⟨pf,cf,rfl⟩:=hsf.form;obtain⟨FN,hFN⟩:∃N,fs.length=N:=⟨_,rfl⟩;rw [hFN] at hsf x2;have hbx:=zD wo (.cells #[.string nm,.bool act,.slice pf FN cf,.slice pm MN cm] 55);have HSF:=zh (hsf.keep hbx);have HSM:=zh (hsm.keep hbx);have HMN:=zh hMN;have HBX:=zh hbx;have e3:=zJ wo #[.string nm,.bool act,.slice pf FN cf,.slice pm MN cm] 55 3 _ rfl;have hd0:=zA hbx c0;obtain⟨W2,hW2⟩:∃W2,W2=wo.alloc (.cells #[.string nm,.bool act,.slice pf FN cf,.slice pm MN cm] 55):=⟨_,rfl⟩;rw [<-hW2] at HSF HSM HBX e3 hd0;clear hx hbr hsf hsm hMN hFN hbx;have hno:Hid (Tr.validC ⟨nm,act,fs,ms⟩=false->Tr.validP cs=false):=fun h=>zES HX h
   go_wp2_with fail;rw [<-hW2];have e1:W2.cell? ⟨wo.heap.size,1,none⟩=some (.bool act):=by rw [hW2];exact zJ wo #[.string nm,.bool act,.slice pf FN cf,.slice pm MN cm] 55 1 _ rfl
   have e2:W2.cell? ⟨wo.heap.size,2,none⟩=some (.slice pf FN cf):=by rw [hW2];exact zJ wo #[.string nm,.bool act,.slice pf FN cf,.slice pm MN cm] 55 2 _ rfl
   clear hW2;have HBW:=zh (zC HBR HBX);cases hq1:Tr.clsB nm
   ·have hf:=zh (hno (by show(_ && _ && _ && _)=false;rw [hq1];rfl));have hcall:=zDU nm W2 hnm;rw [hq1] at hcall;have HCL:=zh hcall;clear hq1 hcall;refine HCL.mono ?_;rintro e w3 ⟨rfl,hb3⟩;go_wp2;go_ret;exact⟨by rw [hf.out];rfl,HB.trans ((zC HBW hb3).mono HB.size)⟩
   ·have hcall:=zDU nm W2 hnm;rw [hq1] at hcall;have HCL:=zh hcall;have HQ1:=zh hq1;clear hq1 hcall;refine HCL.mono ?_;rintro e w3 ⟨rfl,hb3⟩;have f1:=zA hb3 e1;have f2:=zA hb3 e2;have f3:=zA hb3 e3;have HSM3:=zh (HSM.keep hb3);have HBW3:=zh (zC HBW hb3);have hcall:=zLJ _ fs w3 (HSF.keep hb3);clear hb3 HCL;cases hq2:fs.all Tr.varB
    ·have hf:=zh (hno (by show(_ && _ && _ && _)=false;rw [hq2,Bool.and_false];rfl));rw [hq2] at hcall;have HCL:=zh hcall;clear hq2 hcall;go_wp2_with fail;refine HCL.mono ?_;rintro e w4 ⟨rfl,hb4⟩;go_wp2;go_ret;exact⟨by rw [hf.out];rfl,HB.trans ((zC HBW3 hb4).mono HB.size)⟩
    ·rw [hq2] at hcall;have HCL:=zh hcall;have HQ2:=zh hq2;clear hq2 hcall;go_wp2_with fail;refine HCL.mono ?_;rintro e w4 ⟨rfl,hb4⟩;have g1:=zA hb4 f1;have g3:=zA hb4 f3;have HSM4:=zh (HSM3.keep hb4);have HBW4:=zh (zC HBW3 hb4);clear hb4 HCL f1 f2 f3 e1 e2 e3;by_cases hbad:act=false/\0<MN
     ·obtain⟨rfl,hM⟩:=hbad;have hf:=zh (hno (by show(_ && _ && _ && _)=false;rw [show (false||decide (ms.length=0))=false by rw [HMN.out];simp;omega,Bool.and_false];rfl));go_wp2;go_ret;exact⟨by rw [hf.out];rfl,HB.trans (HBW4.mono HB.size)⟩
     ·have hgood:act=true\/(act=false/\MN<=0):=by
       cases act
       ·right;exact⟨rfl,by have:¬0<MN:=fun h=>hbad ⟨rfl,h⟩;omega⟩
       ·exact .inl rfl
      clear hbad;rcases hgood with rfl|⟨rfl,hM⟩
      ·go_wp2_with fail
       go_loopw [5] (fun s5 wr=>∃i:Nat,s5= .int .i64 i/\i<=MN/\(∀t m,t<i->ms[t]? =some m->Tr.validM m=true)/\Below w4.heap.size w4 wr) (fun s5 _=>MN -(intOf s5).toNat)
       case atStart=>exact ⟨0,rfl,kO _,fun t x ht=>by omega,Below.refl _ _⟩
       case round=>
        obtain⟨i,rfl,hi,hall,hbr⟩:=hrel;have HAM:=zh hall;have HBRM:=zh hbr;have k3:=zA hbr g3;clear hall;by_cases hlt2:i<MN
        ·obtain⟨m,hm⟩:∃m,ms[i]? =some m:=⟨_,kB (by rw [HMN.out];exact hlt2)⟩;obtain⟨b2,o2,vp,vb,rfl,hblt2,hc2,hnm2,hsp,hsb⟩:=(HSM4.keep hbr).get hm;obtain⟨y0,y1,y2⟩:=hc2;have HM:=zh hm;obtain⟨mn,ps,bd⟩:=m;simp only [] at hnm2 hsp hsb y0;obtain⟨pp,cp,rfl⟩:=hsp.form;obtain⟨pb,cb,rfl,_⟩:=hsb.form;obtain⟨PN,hPN⟩:∃N,ps.length=N:=⟨_,rfl⟩;obtain⟨BN,hBN⟩:∃N,bd.length=N:=⟨_,rfl⟩;rw [hPN] at hsp y1;rw [hBN] at hsb y2;have hbx:=zD wr (.cells #[.string mn,.slice pp PN cp,.slice pb BN cb] 62);have HSP:=zh (hsp.keep hbx);have HSB:=zh (hsb.keep hbx);have HBXM:=zh hbx;have z1:=zJ wr #[.string mn,.slice pp PN cp,.slice pb BN cb] 62 1 _ rfl;have z2:=zJ wr #[.string mn,.slice pp PN cp,.slice pb BN cb] 62 2 _ rfl;obtain⟨W5,hW5⟩:∃W5,W5=wr.alloc (.cells #[.string mn,.slice pp PN cp,.slice pb BN cb] 62):=⟨_,rfl⟩;rw [<-hW5] at HSP HSB HBXM z1 z2;have hnoM:Hid (Tr.validM ⟨mn,ps,bd⟩=false->Tr.validP cs=false):=fun h=>hno (by show(_ && _ && _ && ms.all Tr.validM)=false;rw [zES HM.out h,Bool.and_false])
         clear hm hsp hsb hbr hbx hPN hBN;go_wp2_with fail;rw [<-hW5];clear hW5;have HBW5:=zh (zC HBRM HBXM);have hcall:=zCV mn W5 hnm2;cases hv1:Tr.varB mn
         ·have hf:=zh (hnoM (by show(_ && _ && _)=false;rw [hv1];rfl));rw [hv1] at hcall;have HCL:=zh hcall;clear hv1 hcall;refine HCL.mono ?_;rintro e w6 ⟨rfl,hb6⟩;go_wp2;go_ret;exact⟨by rw [hf.out];rfl,HB.trans ((zC HBW4 (zC HBW5 hb6)).mono HB.size)⟩
         ·rw [hv1] at hcall;have HCL:=zh hcall;have HV1:=zh hv1;clear hv1 hcall;refine HCL.mono ?_;rintro e w6 ⟨rfl,hb6⟩;have z1':=zA hb6 z1;have z2':=zA hb6 z2;have HSB6:=zh (HSB.keep hb6);have HBW6:=zh (zC HBW5 hb6);have hcall:=zLJ _ ps w6 (HSP.keep hb6);clear hb6 HCL;cases hv2:ps.all Tr.varB
          ·have hf:=zh (hnoM (by show(_ && _ && _)=false;rw [hv2,Bool.and_false];rfl));rw [hv2] at hcall;have HCL:=zh hcall;clear hv2 hcall;go_wp2_with fail;refine HCL.mono ?_;rintro e w7 ⟨rfl,hb7⟩;go_wp2;go_ret;exact⟨by rw [hf.out];rfl,HB.trans ((zC HBW4 (zC HBW6 hb7)).mono HB.size)⟩
          ·rw [hv2] at hcall;have HCL:=zh hcall;have HV2:=zh hv2;clear hv2 hcall;go_wp2_with fail;refine HCL.mono ?_;rintro e w7 ⟨rfl,hb7⟩;have z2'':=zA hb7 z2';have HBW7:=zh (zC HBW6 hb7);have hcall:=blockR bd _ w7 (HSB6.keep hb7);clear hb7 HCL;cases hv3:Tr.zV bd
           ·have hf:=zh (hnoM (by show(_ && _ && _)=false;rw [hv3,Bool.and_false]));rw [hv3] at hcall;have HCL:=zh hcall;clear hv3 hcall;go_wp2_with fail;refine HCL.mono ?_;rintro e w8 ⟨rfl,hb8⟩;go_wp2;go_ret;exact⟨by rw [hf.out];rfl,HB.trans ((zC HBW4 (zC HBW7 hb8)).mono HB.size)⟩
           ·rw [hv3] at hcall;have HCL:=zh hcall;have HV3:=zh (show Tr.validM ⟨mn,ps,bd⟩=true by show(_ && _ && _)=true;rw [HV1.out,HV2.out,hv3];rfl);clear hv3 hcall;go_wp2_with fail;refine HCL.mono ?_;rintro e w8 ⟨rfl,hb8⟩;go_wp2_with fail;go_roundw
            case rel=>
             refine⟨i+1,by go_num,by omega,fun t y ht hty=>?_,zC HBW7 hb8⟩;by_cases e:t=i
             ·subst e;rw [HM.out] at hty;cases hty;exact HV3
             ·exact HAM t y (by omega) hty
            case measure=>simp [intOf];omega
        ·have hms:=zh (zCU HMN (p:=Tr.validM) (fun t m ht=>HAM t m (by omega)));have hyes:Hid (Tr.validC ⟨nm,true,fs,ms⟩=true):=show (Tr.clsB nm && fs.all Tr.varB && (true||decide (ms.length=0)) && ms.all Tr.validM)=true by rw [HQ1.out,HQ2.out,hms.out];rfl
         clear hbr;go_wp2_with fail;go_roundw
         case rel=>
          refine⟨j+1,by go_num,by omega,fun t y ht hty=>?_,HBW4.trans (HBRM.mono HBW4.size)⟩;by_cases e:t=j
          ·subst e;rw [HX.out] at hty;cases hty;exact hyes
          ·exact HA t y (by omega) hty
         case measure=>simp [intOf];omega
      ·have hms:=zCU HMN (p:=Tr.validM) (fun t m ht _=>by omega);have hyes:Hid (Tr.validC ⟨nm,false,fs,ms⟩=true):=show (Tr.clsB nm && fs.all Tr.varB && (false||decide (ms.length=0)) && ms.all Tr.validM)=true by rw [HQ1.out,HQ2.out,hms,HMN.out,kS (by omega)];rfl
       clear hms;go_wp2_with fail;refine wp_loop_rounds 1 ?_;rw [rounds_succ];go_wp2_with fail;go_roundw
       case rel=>
        refine⟨j+1,by go_num,by omega,fun t y ht hty=>?_,HBW4⟩;by_cases e:t=j
        ·subst e;rw [HX.out] at hty;cases hty;exact hyes
        ·exact HA t y (by omega) hty
       case measure=>simp [intOf];omega
  ·have hf:=zh (zCU HN (p:=Tr.validC) (fun t x ht=>HA t x (by omega)));clear hbr;go_wp2;go_ret;exact⟨by rw [Tr.validP,hf.out];rfl,HB.trans (HBR.mono HB.size)⟩
end Go.Proofs.YtcnmfcgmnkncaaaGreatDoor
