/-
  TrProgB, TrAllE, TrAllS, TrProgC.
-/
import Derived.Test.YtcnmfcgmnkncaaaGreatDoorX6
set_option maxRecDepth 100000
set_option maxHeartbeats 40000000
open Go.Proofs.Tryz
namespace Go.Proofs.YtcnmfcgmnkncaaaGreatDoor
open Go.RowKit
theorem zE5:∀(d:Nat) (e:Tr.E) (a:Value) (w:World),e.deep<=d->LexEnv w->BdE e->SlE w a e.args->
 Calls prog 40 #[zK e a] w fun r w'=>r= .returned (.bool (Tr.zE e))/\Below w.heap.size w w':=by
 intro d
 induction d with
 |zero=>intro e a w hd;have:=e.deep_pos;omega
 |succ d ih=>
  intro e a w hd hE hB hS;obtain⟨k,o,i,nm,at_,l⟩:=e;have hsz:nm.size<=maxLen:=hB.name;have hk:=hB.kind;have ho:=hB.op;have hi:=hB.int;have hS':SlE w a l:=hS;obtain⟨p,c,rfl,_⟩:=hS'.form;have hll:=hS'.len;unfold maxLen at hll;obtain⟨N,hN⟩:∃N,l.length=N:=⟨_,rfl⟩;rw [hN] at hS' hll |-;have hbx:=zD w (.cells #[.int .i64 k,.int .i64 o,.int .i64 i,.string nm,.bool at_,.slice p N c] 37);have HS:=zh (hS'.keep hbx);have HN:=zh hN;have HD:=zh hd;have HIH:=zh ih;have HB:=zh hbx;have HC:=zh (zL9 w k o i nm at_ (.slice p N c));have KV:Hid (∀W,Below w.heap.size w W->Calls prog 63 #[.string nm] W fun e w'=>e= .returned (.bool (Tr.varB nm))/\Below W.heap.size W w'):=fun W hb=>zBA nm W (hE.keep hb) hsz
  have KC:Hid (∀W,Below w.heap.size w W->Calls prog 64 #[.string nm] W fun e w'=>e= .returned (.bool (Tr.clsB nm))/\Below W.heap.size W w'):=fun W hb=>zH5 nm W (hE.keep hb) hsz
  have HE:=zh (hE.keep hbx);have hval:Hid (Tr.zE (.mk k o i nm at_ l)=(Tr.zT l && Tr.okE k o i nm at_ N)):=by rw [Tr.zE,hN];exact rfl
  unfold zK;simp only [Tr.E.kind,Tr.E.op,Tr.E.int,Tr.E.name,Tr.E.at_];obtain⟨w1,hw1⟩:∃w1,w1=w.alloc (.cells #[.int .i64 k,.int .i64 o,.int .i64 i,.string nm,.bool at_,.slice p N c] 37):=⟨_,rfl⟩;rw [<-hw1] at HS HB HC HE;clear hE hS hS' hB hN hd ih hbx hsz;go_in;go_wp2;rw [<-hw1];clear hw1
  go_loopw [9] (fun s3 wr=>∃j:Nat,s3= .int .i64 j/\j<=N/\(∀t x,t<j->l[t]? =some x->Tr.zE x=true)/\Below w1.heap.size w1 wr) (fun s3 _=>N -(intOf s3).toNat)
  case atStart=>exact ⟨0,rfl,kO _,fun t x ht=>by omega,Below.refl _ _⟩
  case round=>
   obtain⟨j,rfl,hj,hall,hbr⟩:=hrel;have HA:=zh hall;have HBR:=zh hbr;have c0:=zA hbr (HC 0 _ rfl);have c1:=zA hbr (HC 1 _ rfl);have c2:=zA hbr (HC 2 _ rfl);have c3:=zA hbr (HC 3 _ rfl);have c4:=zA hbr (HC 4 _ rfl);have c5:=zA hbr (HC 5 _ rfl);clear hall;by_cases hlt:j<N
   ·obtain⟨x,hx⟩:∃x,l[j]? =some x:=⟨_,kB (by rw [HN.out];exact hlt)⟩;obtain⟨b,oo,aa,rfl,hblt,hc,hbd,hsl⟩:=(HS.keep hbr).get hx;obtain⟨x0,x1,x2,x3,x4,x5⟩:=hc;obtain⟨pa,ca,rfl,_⟩:=hsl.form;obtain⟨AN,hAN⟩:∃N,x.args.length=N:=⟨_,rfl⟩;rw [hAN] at hsl x5;have hbx:=zD wr (.cells #[.int .i64 x.kind,.int .i64 x.op,.int .i64 x.int,.string x.name,.bool x.at_,.slice pa AN ca] 37);have hcall:=HIH x (.slice pa AN ca) _ (Tr.E.deep_args HD (e:= .mk k o i nm at_ l) hx) ((HE.keep hbr).keep hbx) hbd (hsl.keep hbx);unfold zK at hcall;have HX:=zh hx;have HBX:=zh (zC HBR hbx);clear hx hbd hsl hbr c0 c1 c2 c3 c4 hAN hbx;cases hv:Tr.zE x
    ·rw [hv] at hcall;have HCL:=zh hcall;have hf:=zh (show Tr.zE (.mk k o i nm at_ l)=false by rw [hval.out,zF0 HX.out hv];rfl);clear hcall hv;go_wp2_with fail;refine HCL.mono ?_;rintro e w2 ⟨rfl,hb2⟩;go_wp2;go_ret;exact⟨by rw [hf.out];rfl,HB.trans ((zC HBX hb2).mono HB.size)⟩
    ·rw [hv] at hcall;have HCL:=zh hcall;have HV:=zh hv;clear hcall hv;go_wp2_with fail;refine HCL.mono ?_;rintro e w2 ⟨rfl,hb2⟩;go_wp2_with fail;go_roundw
     case rel=>
      refine⟨j+1,by go_num,by omega,fun t y ht hty=>?_,zC HBX hb2⟩;by_cases e:t=j
      ·subst e;rw [HX.out] at hty;cases hty;exact HV
      ·exact HA t y (by omega) hty
     case measure=>simp [intOf];omega
   ·have hes:Hid (Tr.zT l=true):=zEU HN (fun t x ht=>HA t x (by omega));have HBF:=zh (HB.trans (HBR.mono HB.size));clear hbr;by_cases hb1:k≠0/\i≠0
    ·obtain⟨q1,q2⟩:=hb1;have hf:Hid (Tr.zE _=false):=hval.trans (by rw [hes.out,kF];simp [Tr.okE,q1,q2]);have h10:(k != 0)=true:=by rw [bne_iff_ne];exact q1
     have h11:(i != 0)=true:=by rw [bne_iff_ne];exact q2
     clear q1 q2;go_wp2;go_ret;exact⟨by rw [hf.out];rfl,HBF⟩
    ·by_cases hb2:k≠10/\o≠0
     ·obtain⟨q1,q2⟩:=hb2;by_cases hk0:k=0
      ·subst hk0;have hf:Hid (Tr.zE _=false):=hval.trans (by rw [hes.out,kF];simp [Tr.okE,q2]);have h11:(o != 0)=true:=by rw [bne_iff_ne];exact q2
       clear hb1 q1 q2;go_wp2;go_ret;exact⟨by rw [hf.out];rfl,HBF⟩
      ·obtain rfl:i=0:=by omega
       have hf:Hid (Tr.zE _=false):=hval.trans (by rw [hes.out,kF];simp [Tr.okE,q1,q2]);have h10:(k != 0)=true:=by rw [bne_iff_ne];exact hk0
       have h11:(o != 0)=true:=by rw [bne_iff_ne];exact q2
       have h12:(k != 10)=true:=by rw [bne_iff_ne];exact q1
       clear hb1 hk0 q1 q2;go_wp2;go_ret;exact⟨by rw [hf.out];rfl,HBF⟩
     ·by_cases hb3:k≠5/\at_=true
      ·obtain⟨q1,rfl⟩:=hb3;by_cases hk0:k=0
       ·subst hk0;obtain rfl:o=0:=by omega
        have hf:Hid (Tr.zE _=false):=hval.trans (by rw [hes.out,kF];simp [Tr.okE]);clear hb1 hb2 q1;go_wp2;go_ret;exact⟨by rw [hf.out];rfl,HBF⟩
       ·obtain rfl:i=0:=by omega
        by_cases hk10:k=10
        ·subst hk10;have hf:Hid (Tr.zE _=false):=hval.trans (by rw [hes.out,kF];simp [Tr.okE]);clear hb1 hb2 q1 hk0;go_wp2;go_ret;exact⟨by rw [hf.out];rfl,HBF⟩
        ·obtain rfl:o=0:=by omega
         have hf:Hid (Tr.zE _=false):=hval.trans (by rw [hes.out,kF];simp [Tr.okE,q1]);have h10:(k != 0)=true:=by rw [bne_iff_ne];exact hk0
         have h11:(k != 10)=true:=by rw [bne_iff_ne];exact hk10
         have h12:(k != 5)=true:=by rw [bne_iff_ne];exact q1
         clear hb1 hb2 q1 hk0 hk10;go_wp2;go_ret;exact⟨by rw [hf.out];rfl,HBF⟩
      ·have hcs:k=0\/k=1\/k=2\/k=3\/k=4\/k=5\/k=6\/k=7\/k=8\/k=9\/k=10\/(k<0\/10<k):=(by omega);have hat:k=5\/at_=false:=by
        by_cases e:k=5
        ·exact .inl e
        ·right;cases at_ with
         |false=>rfl
         |true=>exact absurd ⟨e,rfl⟩ hb3
       rcases hcs with rfl|rfl|rfl|rfl|rfl|rfl|rfl|rfl|rfl|rfl|rfl|hcs
       ·clear hb3;obtain rfl:o=0:=by omega
        obtain rfl:at_=false:=by rcases hat with e|e;exact absurd e (by omega);exact e
        clear hb1 hb2 hat;by_cases hN0:N=0
        ·cases hE:nm.toList.isEmpty
         ·skip;have hf:Hid (Tr.zE _=false):=hval.trans (by rw [hes.out,kF];rw [okE_0];exact kE (fun h=>zB1 hE h.2.1));have hn:((N:Int) == 0)=true:=kX.2 (by omega);have hE2:=hE;clear hE;go_wp2;go_ret;exact⟨by rw [hf.out];rfl,HBF⟩
         ·by_cases hi0:i<0
          ·skip;have hf:Hid (Tr.zE _=false):=hval.trans (by rw [hes.out,kF];rw [okE_0];exact kE (fun h=>by omega));have hn:((N:Int) == 0)=true:=kX.2 (by omega);have hE2:=hE;clear hE;go_wp2;go_ret;exact⟨by rw [hf.out];rfl,HBF⟩
          ·have hi1:0<=i:=(by omega);have hf:Hid (Tr.zE _=decide (i<=2305843009213693951)):=hval.trans (by rw [hes.out,kF];rw [okE_0];exact decide_eq_decide.2 ⟨fun h=>h.2.2.2,fun h=>⟨hN0,zCX hE,hi1,h⟩⟩);have hn:((N:Int) == 0)=true:=kX.2 (by omega);have hE2:=hE;clear hE hi0;go_wp2;go_ret;exact⟨by rw [hf.out];rfl,HBF⟩
        ·skip;have hf:Hid (Tr.zE _=false):=hval.trans (by rw [hes.out,kF];simp [Tr.okE,hN0]);have hn:((N:Int) == 0)=false:=kA.2 (by omega);clear hN0;go_wp2;go_ret;exact⟨by rw [hf.out];rfl,HBF⟩
       ·clear hb3;obtain rfl:i=0:=by omega
        obtain rfl:o=0:=by omega
        obtain rfl:at_=false:=by rcases hat with e|e;exact absurd e (by omega);exact e
        clear hb1 hb2 hat;by_cases hN0:N=0
        ·skip;have hf:Hid (Tr.zE _=nm.toList.isEmpty):=hval.trans (by rw [hes.out,kF];rw [zB5];simp [Tr.okE,hN0]);have hn:((N:Int) == 0)=true:=kX.2 (by omega);clear hN0;go_wp2;go_ret;exact⟨by rw [hf.out];rfl,HBF⟩
        ·skip;have hf:Hid (Tr.zE _=false):=hval.trans (by rw [hes.out,kF];simp [Tr.okE,hN0]);have hn:((N:Int) == 0)=false:=kA.2 (by omega);clear hN0;go_wp2;go_ret;exact⟨by rw [hf.out];rfl,HBF⟩
       ·clear hb3;obtain rfl:i=0:=by omega
        obtain rfl:o=0:=by omega
        obtain rfl:at_=false:=by rcases hat with e|e;exact absurd e (by omega);exact e
        clear hb1 hb2 hat;by_cases hN0:N=0
        ·skip;have hf:Hid (Tr.zE _=nm.toList.isEmpty):=hval.trans (by rw [hes.out,kF];rw [zB5];simp [Tr.okE,hN0]);have hn:((N:Int) == 0)=true:=kX.2 (by omega);clear hN0;go_wp2;go_ret;exact⟨by rw [hf.out];rfl,HBF⟩
        ·skip;have hf:Hid (Tr.zE _=false):=hval.trans (by rw [hes.out,kF];simp [Tr.okE,hN0]);have hn:((N:Int) == 0)=false:=kA.2 (by omega);clear hN0;go_wp2;go_ret;exact⟨by rw [hf.out];rfl,HBF⟩
       ·clear hb3;obtain rfl:i=0:=by omega
        obtain rfl:o=0:=by omega
        obtain rfl:at_=false:=by rcases hat with e|e;exact absurd e (by omega);exact e
        clear hb1 hb2 hat;by_cases hN0:N=0
        ·skip;have hf:Hid (Tr.zE _=Tr.varB nm):=hval.trans (by rw [hes.out,kF];simp [Tr.okE,hN0]);have hn:((N:Int) == 0)=true:=kX.2 (by omega);clear hN0;go_wp2_with fail;refine(KV _ HBF).mono ?_;rintro e w2 ⟨rfl,hb2⟩;go_wp2;go_ret;exact⟨by rw [hf.out];rfl,HBF.trans (hb2.mono HBF.size)⟩
        ·skip;have hf:Hid (Tr.zE _=false):=hval.trans (by rw [hes.out,kF];simp [Tr.okE,hN0]);have hn:((N:Int) == 0)=false:=kA.2 (by omega);clear hN0;go_wp2;go_ret;exact⟨by rw [hf.out];rfl,HBF⟩
       ·clear hb3;obtain rfl:i=0:=by omega
        obtain rfl:o=0:=by omega
        obtain rfl:at_=false:=by rcases hat with e|e;exact absurd e (by omega);exact e
        clear hb1 hb2 hat;by_cases hN0:N=1
        ·skip;have hf:Hid (Tr.zE _=Tr.varB nm):=hval.trans (by rw [hes.out,kF];simp [Tr.okE,hN0]);have hn:((N:Int) == 1)=true:=kX.2 (by omega);clear hN0;go_wp2_with fail;refine(KV _ HBF).mono ?_;rintro e w2 ⟨rfl,hb2⟩;go_wp2;go_ret;exact⟨by rw [hf.out];rfl,HBF.trans (hb2.mono HBF.size)⟩
        ·skip;have hf:Hid (Tr.zE _=false):=hval.trans (by rw [hes.out,kF];simp [Tr.okE,hN0]);have hn:((N:Int) == 1)=false:=kA.2 (by omega);clear hN0;go_wp2;go_ret;exact⟨by rw [hf.out];rfl,HBF⟩
       ·clear hb3;obtain rfl:i=0:=by omega
        obtain rfl:o=0:=by omega
        clear hb1 hb2 hat;cases hq:Tr.clsB nm
        ·rw [hq] at KC;have hf:Hid (Tr.zE _=false):=hval.trans (by rw [hes.out,kF];simp [Tr.okE,hq]);clear hq;go_wp2_with fail;refine(KC _ HBF).mono ?_;rintro e w2 ⟨rfl,hb2⟩;go_wp2;go_ret;exact⟨by rw [hf.out];rfl,HBF.trans (hb2.mono HBF.size)⟩
        ·rw [hq] at KC;cases at_
         ·skip;have hf:Hid (Tr.zE _=true):=hval.trans (by rw [hes.out,kF];simp [Tr.okE,hq]);clear hq;go_wp2_with fail;refine(KC _ HBF).mono ?_;rintro e w2 ⟨rfl,hb2⟩;have d4:=zA hb2 c4;have HB2:=zh hb2;clear hb2;go_wp2;go_ret;exact⟨by rw [hf.out];rfl,HBF.trans (HB2.mono HBF.size)⟩
         ·skip;have hf:Hid (Tr.zE _=decide (0<N)):=hval.trans (by rw [hes.out,kF];simp [Tr.okE,hq]);clear hq;go_wp2_with fail;refine(KC _ HBF).mono ?_;rintro e w2 ⟨rfl,hb2⟩;have d4:=zA hb2 c4;have d5:=zA hb2 c5;have HB2:=zh hb2;clear hb2;go_wp2;go_ret;exact⟨by rw [hf.out];rfl,HBF.trans (HB2.mono HBF.size)⟩
       ·clear hb3;obtain rfl:i=0:=by omega
        obtain rfl:o=0:=by omega
        obtain rfl:at_=false:=by rcases hat with e|e;exact absurd e (by omega);exact e
        clear hb1 hb2 hat;by_cases hN0:N=1
        ·skip;have hf:Hid (Tr.zE _=nm.toList.isEmpty):=hval.trans (by rw [hes.out,kF];rw [zB5];simp [Tr.okE,hN0]);have hn:((N:Int) == 1)=true:=kX.2 (by omega);clear hN0;go_wp2;go_ret;exact⟨by rw [hf.out];rfl,HBF⟩
        ·skip;have hf:Hid (Tr.zE _=false):=hval.trans (by rw [hes.out,kF];simp [Tr.okE,hN0]);have hn:((N:Int) == 1)=false:=kA.2 (by omega);clear hN0;go_wp2;go_ret;exact⟨by rw [hf.out];rfl,HBF⟩
       ·clear hb3;obtain rfl:i=0:=by omega
        obtain rfl:o=0:=by omega
        obtain rfl:at_=false:=by rcases hat with e|e;exact absurd e (by omega);exact e
        clear hb1 hb2 hat;by_cases hN0:N=1
        ·skip;have hf:Hid (Tr.zE _=nm.toList.isEmpty):=hval.trans (by rw [hes.out,kF];rw [zB5];simp [Tr.okE,hN0]);have hn:((N:Int) == 1)=true:=kX.2 (by omega);clear hN0;go_wp2;go_ret;exact⟨by rw [hf.out];rfl,HBF⟩
        ·skip;have hf:Hid (Tr.zE _=false):=hval.trans (by rw [hes.out,kF];simp [Tr.okE,hN0]);have hn:((N:Int) == 1)=false:=kA.2 (by omega);clear hN0;go_wp2;go_ret;exact⟨by rw [hf.out];rfl,HBF⟩
       ·clear hb3;obtain rfl:i=0:=by omega
        obtain rfl:o=0:=by omega
        obtain rfl:at_=false:=by rcases hat with e|e;exact absurd e (by omega);exact e
        clear hb1 hb2 hat;by_cases hN0:N=1
        ·skip;have hf:Hid (Tr.zE _=nm.toList.isEmpty):=hval.trans (by rw [hes.out,kF];rw [zB5];simp [Tr.okE,hN0]);have hn:((N:Int) == 1)=true:=kX.2 (by omega);clear hN0;go_wp2;go_ret;exact⟨by rw [hf.out];rfl,HBF⟩
        ·skip;have hf:Hid (Tr.zE _=false):=hval.trans (by rw [hes.out,kF];simp [Tr.okE,hN0]);have hn:((N:Int) == 1)=false:=kA.2 (by omega);clear hN0;go_wp2;go_ret;exact⟨by rw [hf.out];rfl,HBF⟩
       ·clear hb3;obtain rfl:i=0:=by omega
        obtain rfl:o=0:=by omega
        obtain rfl:at_=false:=by rcases hat with e|e;exact absurd e (by omega);exact e
        clear hb1 hb2 hat;by_cases hN0:N=1
        ·skip;have hf:Hid (Tr.zE _=nm.toList.isEmpty):=hval.trans (by rw [hes.out,kF];rw [zB5];simp [Tr.okE,hN0]);have hn:((N:Int) == 1)=true:=kX.2 (by omega);clear hN0;go_wp2;go_ret;exact⟨by rw [hf.out];rfl,HBF⟩
        ·skip;have hf:Hid (Tr.zE _=false):=hval.trans (by rw [hes.out,kF];simp [Tr.okE,hN0]);have hn:((N:Int) == 1)=false:=kA.2 (by omega);clear hN0;go_wp2;go_ret;exact⟨by rw [hf.out];rfl,HBF⟩
       ·clear hb3;obtain rfl:i=0:=by omega
        obtain rfl:at_=false:=by rcases hat with e|e;exact absurd e (by omega);exact e
        clear hb1 hb2 hat;by_cases hN0:N=2
        ·cases hE:nm.toList.isEmpty
         ·skip;have hf:Hid (Tr.zE _=false):=hval.trans (by rw [hes.out,kF];rw [zI7];exact kE (fun h=>zB1 hE h.2.1));have hn:((N:Int) == 2)=true:=kX.2 (by omega);have hE2:=hE;clear hE;go_wp2;go_ret;exact⟨by rw [hf.out];rfl,HBF⟩
         ·by_cases ho0:o<0
          ·skip;have hf:Hid (Tr.zE _=false):=hval.trans (by rw [hes.out,kF];rw [zI7];exact kE (fun h=>by omega));have hn:((N:Int) == 2)=true:=kX.2 (by omega);have hE2:=hE;clear hE;go_wp2;go_ret;exact⟨by rw [hf.out];rfl,HBF⟩
          ·have ho1:0<=o:=(by omega);have hf:Hid (Tr.zE _=decide (o<13)):=hval.trans (by rw [hes.out,kF];rw [zI7];exact decide_eq_decide.2 ⟨fun h=>by omega,fun h=>⟨hN0,zCX hE,ho1,by omega⟩⟩);have hn:((N:Int) == 2)=true:=kX.2 (by omega);have hE2:=hE;clear hE ho0;go_wp2;go_ret;exact⟨by rw [hf.out];rfl,HBF⟩
        ·skip;have hf:Hid (Tr.zE _=false):=hval.trans (by rw [hes.out,kF];simp [Tr.okE,hN0]);have hn:((N:Int) == 2)=false:=kA.2 (by omega);clear hN0;go_wp2;go_ret;exact⟨by rw [hf.out];rfl,HBF⟩
       ·clear hb3;obtain rfl:i=0:=by omega
        obtain rfl:o=0:=by omega
        obtain rfl:at_=false:=by rcases hat with e|e;exact absurd e (by omega);exact e
        clear hb1 hb2 hat;have hf:Hid (Tr.zE _=false):=hval.trans (by rw [hes.out,kF];exact zLH hcs);have e0:(k == 0)=false:=kA.2 (by omega);have e1:(k == 1)=false:=kA.2 (by omega);have e2:(k == 2)=false:=kA.2 (by omega);have e3:(k == 3)=false:=kA.2 (by omega);have e4:(k == 4)=false:=kA.2 (by omega);have e5:(k == 5)=false:=kA.2 (by omega);have e6:(k == 6)=false:=kA.2 (by omega);have e7:(k == 7)=false:=kA.2 (by omega);have e8:(k == 8)=false:=kA.2 (by omega);have e9:(k == 9)=false:=kA.2 (by omega);have e10:(k == 10)=false:=kA.2 (by omega);have h10:(k != 0)=true:=by rw [bne_iff_ne];omega
        have h11:(k != 10)=true:=by rw [bne_iff_ne];omega
        have h12:(k != 5)=true:=by rw [bne_iff_ne];omega
        clear hcs;go_wp2;go_ret;exact⟨by rw [hf.out];rfl,HBF⟩
def ReadE (W:World) (x:Tr.E) (a:Value):Prop:=BdE x/\SlE W a x.args
theorem ReadE.keep {w w':World} {x:Tr.E} {a:Value} (h:ReadE w x a) (hb:Below w.heap.size w w'):ReadE w' x a:=⟨h.1,h.2.keep hb⟩
def HoldsE (w:World) (q:Tr.E->Bool) (l:List Tr.E):Prop:=
 ∀(W:World) (j:Nat) (x:Tr.E) (a:Value),Below w.heap.size w W->l[j]? =some x->ReadE W x a->Calls prog 40 #[zK x a] W fun e w'=>e= .returned (.bool (q x))/\Below W.heap.size W w'
theorem zSQ (q:Tr.E->Bool) (w0:World) (l:List Tr.E) (H:HoldsE w0 q l) (B:Nat) (W:World) (hW:Below w0.heap.size w0 W) (hB:W.cell? ⟨B,0,none⟩=some (.func (.func 40) #[] #[]))
 (j:Nat) (x:Tr.E) (a:Value) (hx:l[j]? =some x) (h:ReadE W x a):
 Calls prog 167 #[zK x a,.pointer (some ⟨B,0,none⟩)] W fun e w'=>e= .returned (.bool (!q x))/\Below W.heap.size W w':=by
 have HR:=zh h;obtain⟨pa,ca,rfl,_⟩:=h.2.form;obtain⟨AN,hAN⟩:∃N,x.args.length=N:=⟨_,rfl⟩;rw [hAN];rw [hAN] at HR;unfold zK;have hbx:=zD W (.cells #[.int .i64 x.kind,.int .i64 x.op,.int .i64 x.int,.string x.name,.bool x.at_,.slice pa AN ca] 37);have hcall:=H _ j x _ (zC hW hbx) hx (HR.keep hbx);unfold zK at hcall;have HC:=zh hcall;have HBX:=zh hbx;have hB':=zA hbx hB;clear h hcall hbx H;go_in;go_wp2_with fail;refine HC.mono ?_;rintro e w2 ⟨rfl,hb2⟩;go_wp2;go_ret;exact⟨rfl,HBX.trans (hb2.mono HBX.size)⟩
theorem zPD (q:Tr.E->Bool) (w0:World) (l:List Tr.E) (H:HoldsE w0 q l) (B:Nat) (W:World) (hW:Below w0.heap.size w0 W) (hB:W.cell? ⟨B,0,none⟩=some (.func (.func 40) #[] #[])) (v:Value) (hS:SlE W v l):
 Calls prog 186 #[v,.func (.func 167) #[] #[.pointer (some ⟨B,0,none⟩)]] W (IdxPost (!l.all q) W):=by
 obtain⟨p,c,rfl,_⟩:=hS.form;have hll:=hS.len;unfold maxLen at hll;obtain⟨N,hN⟩:∃N,l.length=N:=⟨_,rfl⟩;rw [hN] at hS hll |-;have HS:=zh hS;have HN:=zh hN;have HH:=zh H;have HW:=zh hW;clear hS hN H hW;go_in;go_wp2
 go_loopw [8] (fun s8 wr=>∃j:Nat,s8= .int .i64 j/\j<=N/\(∀t x,t<j->l[t]? =some x->q x=true)/\Below W.heap.size W wr) (fun s8 _=>N -(intOf s8).toNat)
 case atStart=>exact ⟨0,rfl,kO _,fun t x ht=>by omega,Below.refl _ _⟩
 case round=>
  obtain⟨j,rfl,hj,hall,hbr⟩:=hrel;have HA:=zh hall;have HBR:=zh hbr;have HB1:=zh (zA hbr hB);clear hall;by_cases hlt:j<N
  ·obtain⟨x,hx⟩:∃x,l[j]? =some x:=⟨_,kB (by rw [HN.out];exact hlt)⟩;obtain⟨b,oo,a,rfl,_,hc,hbd,hsl⟩:=(HS.keep hbr).get hx;obtain⟨x0,x1,x2,x3,x4,x5⟩:=hc;have hr:ReadE wr x a:=⟨hbd,hsl⟩;have hcall:=zSQ q w0 l HH B wr (zC HW HBR) HB1 j x _ hx hr;unfold zK at hcall;have HX:=zh hx;clear hx hr hbr hbd hsl;cases hv:q x
   ·rw [hv] at hcall;have HCL:=zh hcall;have hf:=zh (zES HX hv);clear hcall hv;go_wp2_with fail;refine HCL.mono ?_;rintro e w2 ⟨rfl,hb2⟩;go_wp2;go_ret;exact⟨(j:Int),rfl,by rw [hf.out];simp,zC HBR hb2⟩
   ·rw [hv] at hcall;have HCL:=zh hcall;have HV:=zh hv;clear hcall hv;go_wp2_with fail;refine HCL.mono ?_;rintro e w2 ⟨rfl,hb2⟩;go_wp2_with fail;go_roundw
    case rel=>
     refine⟨j+1,by go_num,by omega,fun t y ht hty=>?_,zC HBR hb2⟩;by_cases e:t=j
     ·subst e;rw [HX.out] at hty;cases hty;exact HV
     ·exact HA t y (by omega) hty
    case measure=>simp [intOf];omega
  ·have hf:=zh (zCU HN (p:=q) (fun t x ht=>HA t x (by omega)));clear hbr;go_wp2;go_ret;exact⟨-1,rfl,by rw [hf.out];simp,HBR⟩
theorem zKO (q:Tr.E->Bool) (w0:World) (l:List Tr.E) (H:HoldsE w0 q l) (B:Nat) (W:World) (hW:Below w0.heap.size w0 W) (hB:W.cell? ⟨B,0,none⟩=some (.func (.func 40) #[] #[])) (v:Value) (hS:SlE W v l):
 Calls prog 166 #[v,.func (.func 167) #[] #[.pointer (some ⟨B,0,none⟩)]] W fun e w'=>e= .returned (.bool (!l.all q))/\Below W.heap.size W w':=by
 have HI:=zh (zPD q w0 l H B W hW hB v hS);obtain⟨p,c,rfl,_⟩:=hS.form;clear H hB hS hW;go_in;go_wp2_with fail;refine HI.mono ?_;rintro e w2 ⟨i,rfl,hi,hb⟩;have HII:=zh hi;clear hi;go_wp2;go_ret;exact⟨zBT HII,hb⟩
theorem zHD (q:Tr.E->Bool) (l:List Tr.E) (W:World) (H:HoldsE W q l) (v:Value) (hS:SlE W v l):
 Calls prog 118 #[v,.func (.func 40) #[] #[]] W fun e w'=>e= .returned (.bool (l.all q))/\Below W.heap.size W w':=by
 have hbx:=zD W (.cells #[.func (.func 40) #[] #[]] 41);have HI:=zh (zKO q W l H W.heap.size _ hbx (zJ W #[.func (.func 40) #[] #[]] 41 0 _ rfl) v (hS.keep hbx));have HBX:=zh hbx;obtain⟨p,c,rfl,_⟩:=hS.form;clear H hS hbx;go_in;go_wp2_with fail;refine HI.mono ?_;rintro e w2 ⟨rfl,hb⟩;go_wp2;go_ret;exact⟨rfl,HBX.trans (hb.mono HBX.size)⟩
def ReadS (W:World) (x:Tr.S) (a1 a2 a3:Value):Prop:=BdS x/\SlE W a1 x.exprs/\SlS W a2 x.body/\SlS W a3 x.els
theorem ReadS.keep {w w':World} {x:Tr.S} {a1 a2 a3:Value} (h:ReadS w x a1 a2 a3) (hb:Below w.heap.size w w'):ReadS w' x a1 a2 a3:=⟨h.1,h.2.1.keep hb,h.2.2.1.keep hb,h.2.2.2.keep hb⟩
def HoldsS (w:World) (q:Tr.S->Bool) (l:List Tr.S):Prop:=
 ∀(W:World) (j:Nat) (x:Tr.S) (a1 a2 a3:Value),Below w.heap.size w W->l[j]? =some x->ReadS W x a1 a2 a3->Calls prog 79 #[stmtV x a1 a2 a3] W fun e w'=>e= .returned (.bool (q x))/\Below W.heap.size W w'
theorem zSN (q:Tr.S->Bool) (w0:World) (l:List Tr.S) (H:HoldsS w0 q l) (B:Nat) (W:World) (hW:Below w0.heap.size w0 W) (hB:W.cell? ⟨B,0,none⟩=some (.func (.func 79) #[] #[]))
 (j:Nat) (x:Tr.S) (a1 a2 a3:Value) (hx:l[j]? =some x) (h:ReadS W x a1 a2 a3):
 Calls prog 117 #[stmtV x a1 a2 a3,.pointer (some ⟨B,0,none⟩)] W fun e w'=>e= .returned (.bool (!q x))/\Below W.heap.size W w':=by
 have HR:=zh h;obtain⟨pa,ca,rfl,_⟩:=h.2.1.form;obtain⟨pb,cb,rfl,_⟩:=h.2.2.1.form;obtain⟨pc,cc,rfl,_⟩:=h.2.2.2.form;obtain⟨AN,hAN⟩:∃N,x.exprs.length=N:=⟨_,rfl⟩;obtain⟨BN,hBN⟩:∃N,x.body.length=N:=⟨_,rfl⟩;obtain⟨CN,hCN⟩:∃N,x.els.length=N:=⟨_,rfl⟩;rw [hAN,hBN,hCN];rw [hAN,hBN,hCN] at HR;unfold stmtV;have hbx:=zD W (.cells #[.int .i64 x.kind,.string x.name,.slice pa AN ca,.slice pb BN cb,.slice pc CN cc] 71);have hcall:=H _ j x _ _ _ (zC hW hbx) hx (HR.keep hbx);unfold stmtV at hcall;have HC:=zh hcall;have HBX:=zh hbx;have hB':=zA hbx hB;clear h hcall hbx H;go_in;go_wp2_with fail;refine HC.mono ?_;rintro e w2 ⟨rfl,hb2⟩;go_wp2;go_ret;exact⟨rfl,HBX.trans (hb2.mono HBX.size)⟩
theorem zPA (q:Tr.S->Bool) (w0:World) (l:List Tr.S) (H:HoldsS w0 q l) (B:Nat) (W:World) (hW:Below w0.heap.size w0 W) (hB:W.cell? ⟨B,0,none⟩=some (.func (.func 79) #[] #[])) (v:Value) (hS:SlS W v l):
 Calls prog 165 #[v,.func (.func 117) #[] #[.pointer (some ⟨B,0,none⟩)]] W (IdxPost (!l.all q) W):=by
 obtain⟨p,c,rfl,_⟩:=hS.form;have hll:=hS.len;unfold maxLen at hll;obtain⟨N,hN⟩:∃N,l.length=N:=⟨_,rfl⟩;rw [hN] at hS hll |-;have HS:=zh hS;have HN:=zh hN;have HH:=zh H;have HW:=zh hW;clear hS hN H hW;go_in;go_wp2
 go_loopw [8] (fun s8 wr=>∃j:Nat,s8= .int .i64 j/\j<=N/\(∀t x,t<j->l[t]? =some x->q x=true)/\Below W.heap.size W wr) (fun s8 _=>N -(intOf s8).toNat)
 case atStart=>exact ⟨0,rfl,kO _,fun t x ht=>by omega,Below.refl _ _⟩
 case round=>
  obtain⟨j,rfl,hj,hall,hbr⟩:=hrel;have HA:=zh hall;have HBR:=zh hbr;have HB1:=zh (zA hbr hB);clear hall;by_cases hlt:j<N
  ·obtain⟨x,hx⟩:∃x,l[j]? =some x:=⟨_,kB (by rw [HN.out];exact hlt)⟩;obtain⟨b,oo,a1,a2,a3,rfl,_,hc,hbd,hsx,hsy,hsz⟩:=(HS.keep hbr).get hx;obtain⟨x0,x1,x2,x3,x4⟩:=hc;have hr:ReadS wr x a1 a2 a3:=⟨hbd,hsx,hsy,hsz⟩;have hcall:=zSN q w0 l HH B wr (zC HW HBR) HB1 j x _ _ _ hx hr;unfold stmtV at hcall;have HX:=zh hx;clear hx hr hbr hbd hsx hsy hsz;cases hv:q x
   ·rw [hv] at hcall;have HCL:=zh hcall;have hf:=zh (zES HX hv);clear hcall hv;go_wp2_with fail;refine HCL.mono ?_;rintro e w2 ⟨rfl,hb2⟩;go_wp2;go_ret;exact⟨(j:Int),rfl,by rw [hf.out];simp,zC HBR hb2⟩
   ·rw [hv] at hcall;have HCL:=zh hcall;have HV:=zh hv;clear hcall hv;go_wp2_with fail;refine HCL.mono ?_;rintro e w2 ⟨rfl,hb2⟩;go_wp2_with fail;go_roundw
    case rel=>
     refine⟨j+1,by go_num,by omega,fun t y ht hty=>?_,zC HBR hb2⟩;by_cases e:t=j
     ·subst e;rw [HX.out] at hty;cases hty;exact HV
     ·exact HA t y (by omega) hty
    case measure=>simp [intOf];omega
  ·have hf:=zh (zCU HN (p:=q) (fun t x ht=>HA t x (by omega)));clear hbr;go_wp2;go_ret;exact⟨-1,rfl,by rw [hf.out];simp,HBR⟩
theorem zKL (q:Tr.S->Bool) (w0:World) (l:List Tr.S) (H:HoldsS w0 q l) (B:Nat) (W:World) (hW:Below w0.heap.size w0 W) (hB:W.cell? ⟨B,0,none⟩=some (.func (.func 79) #[] #[])) (v:Value) (hS:SlS W v l):
 Calls prog 116 #[v,.func (.func 117) #[] #[.pointer (some ⟨B,0,none⟩)]] W fun e w'=>e= .returned (.bool (!l.all q))/\Below W.heap.size W w':=by
 have HI:=zh (zPA q w0 l H B W hW hB v hS);obtain⟨p,c,rfl,_⟩:=hS.form;clear H hB hS hW;go_in;go_wp2_with fail;refine HI.mono ?_;rintro e w2 ⟨i,rfl,hi,hb⟩;have HII:=zh hi;clear hi;go_wp2;go_ret;exact⟨zBT HII,hb⟩
theorem zCJ (q:Tr.S->Bool) (l:List Tr.S) (W:World) (H:HoldsS W q l) (v:Value) (hS:SlS W v l):
 Calls prog 78 #[v,.func (.func 79) #[] #[]] W fun e w'=>e= .returned (.bool (l.all q))/\Below W.heap.size W w':=by
 have hbx:=zD W (.cells #[.func (.func 79) #[] #[]] 136);have HI:=zh (zKL q W l H W.heap.size _ hbx (zJ W #[.func (.func 79) #[] #[]] 136 0 _ rfl) v (hS.keep hbx));have HBX:=zh hbx;obtain⟨p,c,rfl,_⟩:=hS.form;clear H hS hbx;go_in;go_wp2_with fail;refine HI.mono ?_;rintro e w2 ⟨rfl,hb⟩;go_wp2;go_ret;exact⟨rfl,HBX.trans (hb.mono HBX.size)⟩
def formCells:List Value:= [.int .i64 1,.int .i64 1,.bool true,.bool false,.bool false,.int .i64 1,.int .i64 1,.bool true,.bool false,.bool false,.int .i64 2,.int .i64 2,.bool true,.bool false,.bool false,.int .i64 1,.int .i64 1,.bool false,.bool true,.bool true,.int .i64 1,.int .i64 1,.bool false,.bool true,.bool false,.int .i64 1,.int .i64 4611686018427387904,.bool true,.bool false,.bool false,.int .i64 1,.int .i64 1,.bool false,.bool false,.bool false,.int .i64 2,.int .i64 2,.bool false,.bool false,.bool false,.int .i64 2,.int .i64 2,.bool true,.bool false,.bool false,.int .i64 0,.int .i64 0,.bool false,.bool false,.bool false]
structure SynEnv (w:World):Prop where
 lex:LexEnv w
 forms:∀(j:Nat) (u:Value),formCells[j]? =some u->w.cell? ⟨2,j,none⟩=some u
theorem SynEnv.keep {w w':World} (h:SynEnv w) (hb:Below w.heap.size w w'):SynEnv w':=⟨h.lex.keep hb,fun j u hu=>zA hb (h.forms j u hu)⟩
theorem zDM (l:List Tr.E):l.all Tr.zE=Tr.zT l:=(Tr.zCN l).symm
theorem zBE (l:List Tr.S):l.all Tr.zI=Tr.zV l:=(Tr.zCM l).symm
theorem holdsE {w:World} (h:LexEnv w) (l:List Tr.E):HoldsE w Tr.zE l:=fun W _ x a hb _ hr=>zE5 _ x a W (kL _) (h.keep hb) hr.1 hr.2
end Go.Proofs.YtcnmfcgmnkncaaaGreatDoor
