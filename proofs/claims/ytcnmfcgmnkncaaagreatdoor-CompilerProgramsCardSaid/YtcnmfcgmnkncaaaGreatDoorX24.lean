/-
  TrProgCc, TrProgD, TrAllN, TrProgE, CkCheck.
-/
import Derived.Test.YtcnmfcgmnkncaaaGreatDoorX23
import Derived.Laws.EntriesVeiled
import Derived.Test.YtcnmfcgmnkncaaaGreatDoorX21
set_option maxRecDepth 100000
set_option maxHeartbeats 40000000
open Go.Proofs.Tryz
namespace Go.Proofs.YtcnmfcgmnkncaaaGreatDoor
section
open Go.RowKit
theorem zMJ (s:Tr.S) (x y z:Value) (w:World) (hkk:s.kind=6\/s.kind=7\/s.kind=8\/s.kind=9) (hE:SynEnv w) (hfit:s.exprs.length<=4611686018427387904) (hkb:BdS s) (hx:SlE w x s.exprs) (hy:SlS w y s.body) (hz:SlS w z s.els) (h1:HoldsS w Tr.zI s.body) (h2:HoldsS w Tr.zI s.els):
 Calls prog 79 #[stmtV s x y z] w fun r w'=>r= .returned (.bool (Tr.zI s))/\Below w.heap.size w w':=by
 obtain⟨k,nm,l,b,els⟩:=s;have hsz:nm.size<=maxLen:=hkb.name;have hx':SlE w x l:=hx;have hy':SlS w y b:=hy;have hz':SlS w z els:=hz;have hfit':l.length<=4611686018427387904:=hfit;have hk1:=hkb.kind;have hcs:k=6\/k=7\/k=8\/k=9:=hkk;clear hkk;obtain⟨p,c,rfl,_⟩:=hx'.form;obtain⟨py,cy,rfl,_⟩:=hy'.form;obtain⟨pz,cz,rfl,_⟩:=hz'.form;obtain⟨X,hX⟩:∃N,l.length=N:=⟨_,rfl⟩;obtain⟨NB,hNB⟩:∃N,b.length=N:=⟨_,rfl⟩;obtain⟨NE,hNE⟩:∃N,els.length=N:=⟨_,rfl⟩;have hlb:=hy'.len;have hle:=hz'.len;unfold maxLen at hlb hle;rw [hX] at hx' hfit' |-;rw [hNB] at hy' hlb |-;rw [hNE] at hz' hle |-;obtain⟨qe,hqe⟩:∃q,Tr.zT l=q:=⟨_,rfl⟩;obtain⟨qb1,hq1⟩:∃q,Tr.zV b=q:=⟨_,rfl⟩;obtain⟨qb2,hq2⟩:∃q,Tr.zV els=q:=⟨_,rfl⟩;have KV:Hid (∀W,Below w.heap.size w W->Calls prog 63 #[.string nm] W fun e w'=>e= .returned (.bool (Tr.varB nm))/\Below W.heap.size W w'):=fun W hb=>zBA nm W (hE.lex.keep hb) hsz
 have KE:Hid (∀W,Below w.heap.size w W->Calls prog 118 #[.slice p X c,.func (.func 40) #[] #[]] W fun e w'=>e= .returned (.bool qe)/\Below W.heap.size W w'):=fun W hb=>by
  have:=zHD Tr.zE l W (holdsE (hE.lex.keep hb) l) _ (hx'.keep hb);rw [zDM,hqe] at this;exact this
 have KB1:Hid (∀W,Below w.heap.size w W->Calls prog 78 #[.slice py NB cy,.func (.func 79) #[] #[]] W fun e w'=>e= .returned (.bool qb1)/\Below W.heap.size W w'):=fun W hb=>by
  have:=zCJ Tr.zI b W (fun W' j x a1 a2 a3 hb'=>h1 W' j x a1 a2 a3 (zC hb hb')) _ (hy'.keep hb);rw [zBE,hq1] at this;exact this
 have KB2:Hid (∀W,Below w.heap.size w W->Calls prog 78 #[.slice pz NE cz,.func (.func 79) #[] #[]] W fun e w'=>e= .returned (.bool qb2)/\Below W.heap.size W w'):=fun W hb=>by
  have:=zCJ Tr.zI els W (fun W' j x a1 a2 a3 hb'=>h2 W' j x a1 a2 a3 (zC hb hb')) _ (hz'.keep hb);rw [zBE,hq2] at this;exact this
 have hval:Hid (Tr.zI (.mk k nm l b els)=(qe && (Tr.okS k nm X NB NE && (qb1 && qb2)))):=by rw [Tr.zI,hX,hNB,hNE,hqe,hq1,hq2];show(_ && _ && _ && _)=_;rw [Bool.and_assoc,Bool.and_assoc]
 have hno:Hid (Tr.okS k nm X NB NE=false->Tr.zI (.mk k nm l b els)=false):=fun h=>by rw [hval.out,h,Bool.false_and,Bool.and_false]
 have hyes:Hid (Tr.okS k nm X NB NE=true->Tr.zI (.mk k nm l b els)=(qe && (qb1 && qb2))):=fun h=>by rw [hval.out,h,kF]
 unfold stmtV;simp only [Tr.S.kind,Tr.S.name];have HX:=zh hx';have hb1:=zD w (.cells #[.int .i64 k,.string nm,.slice p X c,.slice py NB cy,.slice pz NE cz] 71);have HB1:=zh hb1;have HFm:=zh (fun j u hu=>zA hb1 (hE.forms j u hu));have HC:=zh (fun j u h=>zJ w #[.int .i64 k,.string nm,.slice p X c,.slice py NB cy,.slice pz NE cz] 71 j u h);clear hx hx' hy hy' hz hz' h1 h2 hkb hX hNB hNE hsz hq1 hq2 hqe hE hfit hb1;rcases hcs with rfl|rfl|rfl|rfl
 ·skip;have q0:=HFm 30 _ rfl;have q1:=HFm 31 _ rfl;have q2:=HFm 32 _ rfl;have q3:=HFm 33 _ rfl;have q4:=HFm 34 _ rfl;have hb2:=zD (w.alloc (.cells #[.int .i64 6,.string nm,.slice p X c,.slice py NB cy,.slice pz NE cz] 71)) (.cells #[.int .i64 1,.int .i64 1,.bool false,.bool false,.bool false] 179);have HBW:=zh (zC HB1 hb2);have g:=fun j u h=>zJ (w.alloc (.cells #[.int .i64 6,.string nm,.slice p X c,.slice py NB cy,.slice pz NE cz] 71)) #[.int .i64 1,.int .i64 1,.bool false,.bool false,.bool false] 179 j u h
  have HG:=zh g;have HC2:=zh (fun j u h=>zA hb2 (HC j u h));clear g hb2 hk1;by_cases hlo:X<1
  ·skip;have hf:=zh (hno (by rw [okS_6,kE (fun h=>by omega)]));go_in;go_wp2;go_ret;exact⟨by rw [hf.out];rfl,HBW⟩
  ·have hlo':1<=X:=(by omega);clear hlo;by_cases hhi:1<X
   ·skip;have hf:=zh (hno (by rw [okS_6,kE (fun h=>by omega)]));go_in;go_wp2;go_ret;exact⟨by rw [hf.out];rfl,HBW⟩
   ·have hhi':X<=1:=(by omega);clear hhi;cases hE:nm.toList.isEmpty
    ·have hE2:=hE;have hf:=zh (hno (by rw [okS_6,kE (fun h=>zB1 hE (by omega))]));clear hE;go_in;go_wp2;go_ret;exact⟨by rw [hf.out];rfl,HBW⟩
    ·have hsz0:=zh (zCX hE);have c3:=HC2 3 _ rfl;have c4:=HC2 4 _ rfl;by_cases hnb:0<NB
     ·have hf:=zh (hno (by rw [okS_6,kE (fun h=>by omega)]));go_in;go_wp2;go_ret;exact⟨by rw [hf.out];rfl,HBW⟩
     ·have hnb':NB<=0:=(by omega);clear hnb;by_cases hne:0<NE
      ·have hf:=zh (hno (by rw [okS_6,kE (fun h=>by omega)]));go_in;go_wp2;go_ret;exact⟨by rw [hf.out];rfl,HBW⟩
      ·have hne':NE<=0:=(by omega);clear hne;have hf:=zh (hyes (by rw [okS_6];exact kS ⟨by omega,hsz0,by omega,by omega⟩));cases qe
       ·skip;go_in;go_wp2_with fail;refine(KE _ HBW).mono ?_;rintro e w5 ⟨rfl,hb5⟩;go_wp2;go_ret;exact⟨by rw [hf.out];rfl,zC HBW hb5⟩
       ·cases qb1
        ·skip;go_in;go_wp2_with fail;refine(KE _ HBW).mono ?_;rintro e w5 ⟨rfl,hb5⟩;have r3:=zA hb5 c3;have r4:=zA hb5 c4;have HB5:=zh (zC HBW hb5);clear hb5;go_wp2_with fail;refine(KB1 _ HB5).mono ?_;rintro e w6 ⟨rfl,hb6⟩;go_wp2;go_ret;exact⟨by rw [hf.out];rfl,zC HB5 hb6⟩
        ·skip;go_in;go_wp2_with fail;refine(KE _ HBW).mono ?_;rintro e w5 ⟨rfl,hb5⟩;have r3:=zA hb5 c3;have r4:=zA hb5 c4;have HB5:=zh (zC HBW hb5);clear hb5;go_wp2_with fail;refine(KB1 _ HB5).mono ?_;rintro e w6 ⟨rfl,hb6⟩;have s4:=zA hb6 r4;have HB6:=zh (zC HB5 hb6);clear hb6;go_wp2_with fail;refine(KB2 _ HB6).mono ?_;rintro e w7 ⟨rfl,hb7⟩;go_wp2;go_ret;exact⟨by rw [hf.out];rfl,zC HB6 hb7⟩
 ·skip;have q0:=HFm 35 _ rfl;have q1:=HFm 36 _ rfl;have q2:=HFm 37 _ rfl;have q3:=HFm 38 _ rfl;have q4:=HFm 39 _ rfl;have hb2:=zD (w.alloc (.cells #[.int .i64 7,.string nm,.slice p X c,.slice py NB cy,.slice pz NE cz] 71)) (.cells #[.int .i64 2,.int .i64 2,.bool false,.bool false,.bool false] 179);have HBW:=zh (zC HB1 hb2);have g:=fun j u h=>zJ (w.alloc (.cells #[.int .i64 7,.string nm,.slice p X c,.slice py NB cy,.slice pz NE cz] 71)) #[.int .i64 2,.int .i64 2,.bool false,.bool false,.bool false] 179 j u h
  have HG:=zh g;have HC2:=zh (fun j u h=>zA hb2 (HC j u h));clear g hb2 hk1;by_cases hlo:X<2
  ·skip;have hf:=zh (hno (by rw [okS_7,kE (fun h=>by omega)]));go_in;go_wp2;go_ret;exact⟨by rw [hf.out];rfl,HBW⟩
  ·have hlo':2<=X:=(by omega);clear hlo;by_cases hhi:2<X
   ·skip;have hf:=zh (hno (by rw [okS_7,kE (fun h=>by omega)]));go_in;go_wp2;go_ret;exact⟨by rw [hf.out];rfl,HBW⟩
   ·have hhi':X<=2:=(by omega);clear hhi;cases hE:nm.toList.isEmpty
    ·have hE2:=hE;have hf:=zh (hno (by rw [okS_7,kE (fun h=>zB1 hE (by omega))]));clear hE;go_in;go_wp2;go_ret;exact⟨by rw [hf.out];rfl,HBW⟩
    ·have hsz0:=zh (zCX hE);have c3:=HC2 3 _ rfl;have c4:=HC2 4 _ rfl;by_cases hnb:0<NB
     ·have hf:=zh (hno (by rw [okS_7,kE (fun h=>by omega)]));go_in;go_wp2;go_ret;exact⟨by rw [hf.out];rfl,HBW⟩
     ·have hnb':NB<=0:=(by omega);clear hnb;by_cases hne:0<NE
      ·have hf:=zh (hno (by rw [okS_7,kE (fun h=>by omega)]));go_in;go_wp2;go_ret;exact⟨by rw [hf.out];rfl,HBW⟩
      ·have hne':NE<=0:=(by omega);clear hne;have hf:=zh (hyes (by rw [okS_7];exact kS ⟨by omega,hsz0,by omega,by omega⟩));cases qe
       ·skip;go_in;go_wp2_with fail;refine(KE _ HBW).mono ?_;rintro e w5 ⟨rfl,hb5⟩;go_wp2;go_ret;exact⟨by rw [hf.out];rfl,zC HBW hb5⟩
       ·cases qb1
        ·skip;go_in;go_wp2_with fail;refine(KE _ HBW).mono ?_;rintro e w5 ⟨rfl,hb5⟩;have r3:=zA hb5 c3;have r4:=zA hb5 c4;have HB5:=zh (zC HBW hb5);clear hb5;go_wp2_with fail;refine(KB1 _ HB5).mono ?_;rintro e w6 ⟨rfl,hb6⟩;go_wp2;go_ret;exact⟨by rw [hf.out];rfl,zC HB5 hb6⟩
        ·skip;go_in;go_wp2_with fail;refine(KE _ HBW).mono ?_;rintro e w5 ⟨rfl,hb5⟩;have r3:=zA hb5 c3;have r4:=zA hb5 c4;have HB5:=zh (zC HBW hb5);clear hb5;go_wp2_with fail;refine(KB1 _ HB5).mono ?_;rintro e w6 ⟨rfl,hb6⟩;have s4:=zA hb6 r4;have HB6:=zh (zC HB5 hb6);clear hb6;go_wp2_with fail;refine(KB2 _ HB6).mono ?_;rintro e w7 ⟨rfl,hb7⟩;go_wp2;go_ret;exact⟨by rw [hf.out];rfl,zC HB6 hb7⟩
 ·skip;have q0:=HFm 40 _ rfl;have q1:=HFm 41 _ rfl;have q2:=HFm 42 _ rfl;have q3:=HFm 43 _ rfl;have q4:=HFm 44 _ rfl;have hb2:=zD (w.alloc (.cells #[.int .i64 8,.string nm,.slice p X c,.slice py NB cy,.slice pz NE cz] 71)) (.cells #[.int .i64 2,.int .i64 2,.bool true,.bool false,.bool false] 179);have HBW:=zh (zC HB1 hb2);have g:=fun j u h=>zJ (w.alloc (.cells #[.int .i64 8,.string nm,.slice p X c,.slice py NB cy,.slice pz NE cz] 71)) #[.int .i64 2,.int .i64 2,.bool true,.bool false,.bool false] 179 j u h
  have HG:=zh g;have HC2:=zh (fun j u h=>zA hb2 (HC j u h));clear g hb2 hk1;by_cases hlo:X<2
  ·skip;have hf:=zh (hno (by rw [okS_8,kE (fun h=>by omega)];rfl));go_in;go_wp2;go_ret;exact⟨by rw [hf.out];rfl,HBW⟩
  ·have hlo':2<=X:=(by omega);clear hlo;by_cases hhi:2<X
   ·skip;have hf:=zh (hno (by rw [okS_8,kE (fun h=>by omega)];rfl));go_in;go_wp2;go_ret;exact⟨by rw [hf.out];rfl,HBW⟩
   ·have hhi':X<=2:=(by omega);clear hhi;cases hv:Tr.varB nm
    ·rw [hv] at KV;have hf:=zh (hno (by rw [okS_8,hv,Bool.and_false]));clear hv;go_in;go_wp2_with fail;refine(KV _ HBW).mono ?_;rintro e w3 ⟨rfl,hb3⟩;have c2:=zA hb3 (HC2 2 _ rfl);have c3:=zA hb3 (HC2 3 _ rfl);have c4:=zA hb3 (HC2 4 _ rfl);have g2:=zA hb3 (HG 2 _ rfl);have g3:=zA hb3 (HG 3 _ rfl);have g4:=zA hb3 (HG 4 _ rfl);simp only [World.size_alloc] at g2 g3 g4;have HB3:=zh (zC HBW hb3);clear hb3;go_wp2;go_ret;exact⟨by rw [hf.out];rfl,HB3⟩
    ·rw [hv] at KV;have hvt:=zh hv;clear hv;by_cases hnb:0<NB
     ·have hf:=zh (hno (by rw [okS_8,kE (fun h=>by omega)];rfl));go_in;go_wp2_with fail;refine(KV _ HBW).mono ?_;rintro e w3 ⟨rfl,hb3⟩;have c2:=zA hb3 (HC2 2 _ rfl);have c3:=zA hb3 (HC2 3 _ rfl);have c4:=zA hb3 (HC2 4 _ rfl);have g2:=zA hb3 (HG 2 _ rfl);have g3:=zA hb3 (HG 3 _ rfl);have g4:=zA hb3 (HG 4 _ rfl);simp only [World.size_alloc] at g2 g3 g4;have HB3:=zh (zC HBW hb3);clear hb3;go_wp2;go_ret;exact⟨by rw [hf.out];rfl,HB3⟩
     ·have hnb':NB<=0:=(by omega);clear hnb;by_cases hne:0<NE
      ·have hf:=zh (hno (by rw [okS_8,kE (fun h=>by omega)];rfl));go_in;go_wp2_with fail;refine(KV _ HBW).mono ?_;rintro e w3 ⟨rfl,hb3⟩;have c2:=zA hb3 (HC2 2 _ rfl);have c3:=zA hb3 (HC2 3 _ rfl);have c4:=zA hb3 (HC2 4 _ rfl);have g2:=zA hb3 (HG 2 _ rfl);have g3:=zA hb3 (HG 3 _ rfl);have g4:=zA hb3 (HG 4 _ rfl);simp only [World.size_alloc] at g2 g3 g4;have HB3:=zh (zC HBW hb3);clear hb3;go_wp2;go_ret;exact⟨by rw [hf.out];rfl,HB3⟩
      ·have hne':NE<=0:=(by omega);clear hne;have hf:=zh (hyes (by rw [okS_8,hvt.out,Bool.and_true];exact kS ⟨by omega,by omega,by omega⟩));cases qe
       ·skip;go_in;go_wp2_with fail;refine(KV _ HBW).mono ?_;rintro e w3 ⟨rfl,hb3⟩;have c2:=zA hb3 (HC2 2 _ rfl);have c3:=zA hb3 (HC2 3 _ rfl);have c4:=zA hb3 (HC2 4 _ rfl);have g2:=zA hb3 (HG 2 _ rfl);have g3:=zA hb3 (HG 3 _ rfl);have g4:=zA hb3 (HG 4 _ rfl);simp only [World.size_alloc] at g2 g3 g4;have HB3:=zh (zC HBW hb3);clear hb3;go_wp2_with fail;refine(KE _ HB3).mono ?_;rintro e w5 ⟨rfl,hb5⟩;go_wp2;go_ret;exact⟨by rw [hf.out];rfl,zC HB3 hb5⟩
       ·cases qb1
        ·skip;go_in;go_wp2_with fail;refine(KV _ HBW).mono ?_;rintro e w3 ⟨rfl,hb3⟩;have c2:=zA hb3 (HC2 2 _ rfl);have c3:=zA hb3 (HC2 3 _ rfl);have c4:=zA hb3 (HC2 4 _ rfl);have g2:=zA hb3 (HG 2 _ rfl);have g3:=zA hb3 (HG 3 _ rfl);have g4:=zA hb3 (HG 4 _ rfl);simp only [World.size_alloc] at g2 g3 g4;have HB3:=zh (zC HBW hb3);clear hb3;go_wp2_with fail;refine(KE _ HB3).mono ?_;rintro e w5 ⟨rfl,hb5⟩;have r3:=zA hb5 c3;have r4:=zA hb5 c4;have HB5:=zh (zC HB3 hb5);clear hb5;go_wp2_with fail;refine(KB1 _ HB5).mono ?_;rintro e w6 ⟨rfl,hb6⟩;go_wp2;go_ret;exact⟨by rw [hf.out];rfl,zC HB5 hb6⟩
        ·skip;go_in;go_wp2_with fail;refine(KV _ HBW).mono ?_;rintro e w3 ⟨rfl,hb3⟩;have c2:=zA hb3 (HC2 2 _ rfl);have c3:=zA hb3 (HC2 3 _ rfl);have c4:=zA hb3 (HC2 4 _ rfl);have g2:=zA hb3 (HG 2 _ rfl);have g3:=zA hb3 (HG 3 _ rfl);have g4:=zA hb3 (HG 4 _ rfl);simp only [World.size_alloc] at g2 g3 g4;have HB3:=zh (zC HBW hb3);clear hb3;go_wp2_with fail;refine(KE _ HB3).mono ?_;rintro e w5 ⟨rfl,hb5⟩;have r3:=zA hb5 c3;have r4:=zA hb5 c4;have HB5:=zh (zC HB3 hb5);clear hb5;go_wp2_with fail;refine(KB1 _ HB5).mono ?_;rintro e w6 ⟨rfl,hb6⟩;have s4:=zA hb6 r4;have HB6:=zh (zC HB5 hb6);clear hb6;go_wp2_with fail;refine(KB2 _ HB6).mono ?_;rintro e w7 ⟨rfl,hb7⟩;go_wp2;go_ret;exact⟨by rw [hf.out];rfl,zC HB6 hb7⟩
 ·skip;have q0:=HFm 45 _ rfl;have q1:=HFm 46 _ rfl;have q2:=HFm 47 _ rfl;have q3:=HFm 48 _ rfl;have q4:=HFm 49 _ rfl;have hb2:=zD (w.alloc (.cells #[.int .i64 9,.string nm,.slice p X c,.slice py NB cy,.slice pz NE cz] 71)) (.cells #[.int .i64 0,.int .i64 0,.bool false,.bool false,.bool false] 179);have HBW:=zh (zC HB1 hb2);have g:=fun j u h=>zJ (w.alloc (.cells #[.int .i64 9,.string nm,.slice p X c,.slice py NB cy,.slice pz NE cz] 71)) #[.int .i64 0,.int .i64 0,.bool false,.bool false,.bool false] 179 j u h
  have HG:=zh g;have HC2:=zh (fun j u h=>zA hb2 (HC j u h));clear g hb2 hk1;by_cases hhi:0<X
  ·skip;have hf:=zh (hno (by rw [okS_9,kE (fun h=>by omega)]));go_in;go_wp2;go_ret;exact⟨by rw [hf.out];rfl,HBW⟩
  ·have hhi':X<=0:=(by omega);clear hhi;cases hE:nm.toList.isEmpty
   ·have hE2:=hE;have hf:=zh (hno (by rw [okS_9,kE (fun h=>zB1 hE (by omega))]));clear hE;go_in;go_wp2;go_ret;exact⟨by rw [hf.out];rfl,HBW⟩
   ·have hsz0:=zh (zCX hE);have c3:=HC2 3 _ rfl;have c4:=HC2 4 _ rfl;by_cases hnb:0<NB
    ·have hf:=zh (hno (by rw [okS_9,kE (fun h=>by omega)]));go_in;go_wp2;go_ret;exact⟨by rw [hf.out];rfl,HBW⟩
    ·have hnb':NB<=0:=(by omega);clear hnb;by_cases hne:0<NE
     ·have hf:=zh (hno (by rw [okS_9,kE (fun h=>by omega)]));go_in;go_wp2;go_ret;exact⟨by rw [hf.out];rfl,HBW⟩
     ·have hne':NE<=0:=(by omega);clear hne;have hf:=zh (hyes (by rw [okS_9];exact kS ⟨by omega,hsz0,by omega,by omega⟩));cases qe
      ·skip;go_in;go_wp2_with fail;refine(KE _ HBW).mono ?_;rintro e w5 ⟨rfl,hb5⟩;go_wp2;go_ret;exact⟨by rw [hf.out];rfl,zC HBW hb5⟩
      ·cases qb1
       ·skip;go_in;go_wp2_with fail;refine(KE _ HBW).mono ?_;rintro e w5 ⟨rfl,hb5⟩;have r3:=zA hb5 c3;have r4:=zA hb5 c4;have HB5:=zh (zC HBW hb5);clear hb5;go_wp2_with fail;refine(KB1 _ HB5).mono ?_;rintro e w6 ⟨rfl,hb6⟩;go_wp2;go_ret;exact⟨by rw [hf.out];rfl,zC HB5 hb6⟩
       ·skip;go_in;go_wp2_with fail;refine(KE _ HBW).mono ?_;rintro e w5 ⟨rfl,hb5⟩;have r3:=zA hb5 c3;have r4:=zA hb5 c4;have HB5:=zh (zC HBW hb5);clear hb5;go_wp2_with fail;refine(KB1 _ HB5).mono ?_;rintro e w6 ⟨rfl,hb6⟩;have s4:=zA hb6 r4;have HB6:=zh (zC HB5 hb6);clear hb6;go_wp2_with fail;refine(KB2 _ HB6).mono ?_;rintro e w7 ⟨rfl,hb7⟩;go_wp2;go_ret;exact⟨by rw [hf.out];rfl,zC HB6 hb7⟩
theorem zHH (s:Tr.S) (x y z:Value) (w:World) (hkr':s.kind<0\/9<s.kind) (hE:SynEnv w) (hfit:s.exprs.length<=4611686018427387904) (hkb:BdS s) (hx:SlE w x s.exprs) (hy:SlS w y s.body) (hz:SlS w z s.els) (h1:HoldsS w Tr.zI s.body) (h2:HoldsS w Tr.zI s.els):
 Calls prog 79 #[stmtV s x y z] w fun r w'=>r= .returned (.bool (Tr.zI s))/\Below w.heap.size w w':=by
 obtain⟨k,nm,l,b,els⟩:=s;have hsz:nm.size<=maxLen:=hkb.name;have hx':SlE w x l:=hx;have hy':SlS w y b:=hy;have hz':SlS w z els:=hz;have hfit':l.length<=4611686018427387904:=hfit;have hk1:=hkb.kind;obtain⟨p,c,rfl,_⟩:=hx'.form;obtain⟨py,cy,rfl,_⟩:=hy'.form;obtain⟨pz,cz,rfl,_⟩:=hz'.form;obtain⟨X,hX⟩:∃N,l.length=N:=⟨_,rfl⟩;obtain⟨NB,hNB⟩:∃N,b.length=N:=⟨_,rfl⟩;obtain⟨NE,hNE⟩:∃N,els.length=N:=⟨_,rfl⟩;have hlb:=hy'.len;have hle:=hz'.len;unfold maxLen at hlb hle;rw [hX] at hx' hfit' |-;rw [hNB] at hy' hlb |-;rw [hNE] at hz' hle |-;obtain⟨qe,hqe⟩:∃q,Tr.zT l=q:=⟨_,rfl⟩;obtain⟨qb1,hq1⟩:∃q,Tr.zV b=q:=⟨_,rfl⟩;obtain⟨qb2,hq2⟩:∃q,Tr.zV els=q:=⟨_,rfl⟩;have KV:Hid (∀W,Below w.heap.size w W->Calls prog 63 #[.string nm] W fun e w'=>e= .returned (.bool (Tr.varB nm))/\Below W.heap.size W w'):=fun W hb=>zBA nm W (hE.lex.keep hb) hsz
 have KE:Hid (∀W,Below w.heap.size w W->Calls prog 118 #[.slice p X c,.func (.func 40) #[] #[]] W fun e w'=>e= .returned (.bool qe)/\Below W.heap.size W w'):=fun W hb=>by
  have:=zHD Tr.zE l W (holdsE (hE.lex.keep hb) l) _ (hx'.keep hb);rw [zDM,hqe] at this;exact this
 have KB1:Hid (∀W,Below w.heap.size w W->Calls prog 78 #[.slice py NB cy,.func (.func 79) #[] #[]] W fun e w'=>e= .returned (.bool qb1)/\Below W.heap.size W w'):=fun W hb=>by
  have:=zCJ Tr.zI b W (fun W' j x a1 a2 a3 hb'=>h1 W' j x a1 a2 a3 (zC hb hb')) _ (hy'.keep hb);rw [zBE,hq1] at this;exact this
 have KB2:Hid (∀W,Below w.heap.size w W->Calls prog 78 #[.slice pz NE cz,.func (.func 79) #[] #[]] W fun e w'=>e= .returned (.bool qb2)/\Below W.heap.size W w'):=fun W hb=>by
  have:=zCJ Tr.zI els W (fun W' j x a1 a2 a3 hb'=>h2 W' j x a1 a2 a3 (zC hb hb')) _ (hz'.keep hb);rw [zBE,hq2] at this;exact this
 have hval:Hid (Tr.zI (.mk k nm l b els)=(qe && (Tr.okS k nm X NB NE && (qb1 && qb2)))):=by rw [Tr.zI,hX,hNB,hNE,hqe,hq1,hq2];show(_ && _ && _ && _)=_;rw [Bool.and_assoc,Bool.and_assoc]
 have hno:Hid (Tr.okS k nm X NB NE=false->Tr.zI (.mk k nm l b els)=false):=fun h=>by rw [hval.out,h,Bool.false_and,Bool.and_false]
 have hyes:Hid (Tr.okS k nm X NB NE=true->Tr.zI (.mk k nm l b els)=(qe && (qb1 && qb2))):=fun h=>by rw [hval.out,h,kF]
 unfold stmtV;simp only [Tr.S.kind,Tr.S.name];have HX:=zh hx';have hb1:=zD w (.cells #[.int .i64 k,.string nm,.slice p X c,.slice py NB cy,.slice pz NE cz] 71);have HB1:=zh hb1;have HFm:=zh (fun j u hu=>zA hb1 (hE.forms j u hu));have HC:=zh (fun j u h=>zJ w #[.int .i64 k,.string nm,.slice p X c,.slice py NB cy,.slice pz NE cz] 71 j u h);clear hx hx' hy hy' hz hz' h1 h2 hkb hX hNB hNE hsz hq1 hq2 hqe hE hfit hb1;have hkr:k<0\/9<k:=hkr';clear hkr'
 ·have hf:=zh (hno (zLG hkr));rcases hkr with hkr|hkr
  all_goals
   go_in;go_wp2;go_ret;exact⟨by rw [hf.out];rfl,HB1⟩
theorem zKW (s:Tr.S) (x y z:Value) (w:World) (hE:SynEnv w) (hfit:s.exprs.length<=4611686018427387904) (hkb:BdS s) (hx:SlE w x s.exprs) (hy:SlS w y s.body) (hz:SlS w z s.els) (h1:HoldsS w Tr.zI s.body) (h2:HoldsS w Tr.zI s.els):
 Calls prog 79 #[stmtV s x y z] w fun r w'=>r= .returned (.bool (Tr.zI s))/\Below w.heap.size w w':=by
 by_cases h:s.kind<0\/9<s.kind
 ·exact zHH s x y z w h hE hfit hkb hx hy hz h1 h2
 ·by_cases ha:s.kind=0\/s.kind=1\/s.kind=2
  ·exact zML s x y z w ha hE hfit hkb hx hy hz h1 h2
  ·by_cases hb:s.kind=3\/s.kind=4\/s.kind=5
   ·exact zMK s x y z w hb hE hfit hkb hx hy hz h1 h2
   ·exact zMJ s x y z w (by omega) hE hfit hkb hx hy hz h1 h2
def ReadN (_W:World) (x:BA):Prop:=x.size<=maxLen
theorem ReadN.keep {w w':World} {x:BA} (h:ReadN w x ) (_hb:Below w.heap.size w w'):ReadN w' x  :=h
def HoldsN (w:World) (q:BA->Bool) (l:List BA):Prop:=
 ∀(W:World) (j:Nat) (x:BA),Below w.heap.size w W->l[j]? =some x->ReadN W x  ->Calls prog 63 #[.string x] W fun e w'=>e= .returned (.bool (q x))/\Below W.heap.size W w'
theorem zSO (q:BA->Bool) (w0:World) (l:List BA) (H:HoldsN w0 q l) (B:Nat) (W:World) (hW:Below w0.heap.size w0 W) (hB:W.cell? ⟨B,0,none⟩=some (.func (.func 63) #[] #[]))
 (j:Nat) (x:BA) (hx:l[j]? =some x) (h:ReadN W x ):
 Calls prog 115 #[.string x,.pointer (some ⟨B,0,none⟩)] W fun e w'=>e= .returned (.bool (!q x))/\Below W.heap.size W w':=by
 have HR:=zh h;have hcall:=H _ j x hW hx HR;have HC:=zh hcall;clear h hcall H;go_in;go_wp2_with fail;refine HC.mono ?_;rintro e w2 ⟨rfl,hb2⟩;go_wp2;go_ret;exact⟨rfl,hb2⟩
theorem zPB (q:BA->Bool) (w0:World) (l:List BA) (H:HoldsN w0 q l) (B:Nat) (W:World) (hW:Below w0.heap.size w0 W) (hB:W.cell? ⟨B,0,none⟩=some (.func (.func 63) #[] #[])) (v:Value) (hS:SlStr W v l):
 Calls prog 164 #[v,.func (.func 115) #[] #[.pointer (some ⟨B,0,none⟩)]] W (IdxPost (!l.all q) W):=by
 obtain⟨p,c,rfl⟩:=hS.form;have hll:=hS.len;unfold maxLen at hll;obtain⟨N,hN⟩:∃N,l.length=N:=⟨_,rfl⟩;rw [hN] at hS hll |-;have HS:=zh hS;have HN:=zh hN;have HH:=zh H;have HW:=zh hW;clear hS hN H hW;go_in;go_wp2
 go_loopw [8] (fun s8 wr=>∃j:Nat,s8= .int .i64 j/\j<=N/\(∀t x,t<j->l[t]? =some x->q x=true)/\Below W.heap.size W wr) (fun s8 _=>N -(intOf s8).toNat)
 case atStart=>exact ⟨0,rfl,kO _,fun t x ht=>by omega,Below.refl _ _⟩
 case round=>
  obtain⟨j,rfl,hj,hall,hbr⟩:=hrel;have HA:=zh hall;have HBR:=zh hbr;have HB1:=zh (zA hbr hB);clear hall;by_cases hlt:j<N
  ·obtain⟨x,hx⟩:∃x,l[j]? =some x:=⟨_,kB (by rw [HN.out];exact hlt)⟩;obtain⟨p2,c2,e2,_,_,hcell⟩:=HS.keep hbr;cases e2;obtain⟨hsz,b,oo,rfl,_,hc⟩:=hcell j x hx;have hr:ReadN wr x:=hsz;clear hcell;have hcall:=zSO q w0 l HH B wr (zC HW HBR) HB1 j x  hx hr;have HX:=zh hx;clear hx hr hbr hsz;cases hv:q x
   ·rw [hv] at hcall;have HCL:=zh hcall;have hf:=zh (zES HX hv);clear hcall hv;go_wp2_with fail;refine HCL.mono ?_;rintro e w2 ⟨rfl,hb2⟩;go_wp2;go_ret;exact⟨(j:Int),rfl,by rw [hf.out];simp,zC HBR hb2⟩
   ·rw [hv] at hcall;have HCL:=zh hcall;have HV:=zh hv;clear hcall hv;go_wp2_with fail;refine HCL.mono ?_;rintro e w2 ⟨rfl,hb2⟩;go_wp2_with fail;go_roundw
    case rel=>
     refine⟨j+1,by go_num,by omega,fun t y ht hty=>?_,zC HBR hb2⟩;by_cases e:t=j
     ·subst e;rw [HX.out] at hty;cases hty;exact HV
     ·exact HA t y (by omega) hty
    case measure=>simp [intOf];omega
  ·have hf:=zh (zCU HN (p:=q) (fun t x ht=>HA t x (by omega)));clear hbr;go_wp2;go_ret;exact⟨-1,rfl,by rw [hf.out];simp,HBR⟩
theorem zKM (q:BA->Bool) (w0:World) (l:List BA) (H:HoldsN w0 q l) (B:Nat) (W:World) (hW:Below w0.heap.size w0 W) (hB:W.cell? ⟨B,0,none⟩=some (.func (.func 63) #[] #[])) (v:Value) (hS:SlStr W v l):
 Calls prog 114 #[v,.func (.func 115) #[] #[.pointer (some ⟨B,0,none⟩)]] W fun e w'=>e= .returned (.bool (!l.all q))/\Below W.heap.size W w':=by
 have HI:=zh (zPB q w0 l H B W hW hB v hS);obtain⟨p,c,rfl⟩:=hS.form;clear H hB hS hW;go_in;go_wp2_with fail;refine HI.mono ?_;rintro e w2 ⟨i,rfl,hi,hb⟩;have HII:=zh hi;clear hi;go_wp2;go_ret;exact⟨zBT HII,hb⟩
theorem zOJ (q:BA->Bool) (l:List BA) (W:World) (H:HoldsN W q l) (v:Value) (hS:SlStr W v l):
 Calls prog 77 #[v,.func (.func 63) #[] #[]] W fun e w'=>e= .returned (.bool (l.all q))/\Below W.heap.size W w':=by
 have hbx:=zD W (.cells #[.func (.func 63) #[] #[]] 83);have HI:=zh (zKM q W l H W.heap.size _ hbx (zJ W #[.func (.func 63) #[] #[]] 83 0 _ rfl) v (hS.keep hbx));have HBX:=zh hbx;obtain⟨p,c,rfl⟩:=hS.form;clear H hS hbx;go_in;go_wp2_with fail;refine HI.mono ?_;rintro e w2 ⟨rfl,hb⟩;go_wp2;go_ret;exact⟨rfl,HBX.trans (hb.mono HBX.size)⟩
theorem holdsN {w:World} (h:LexEnv w) (l:List BA):HoldsN w Tr.varB l:=fun W _ x hb _ hr=>zBA x W (h.keep hb) hr
theorem zPF:∀(d:Nat) (l:List Tr.S) (w:World),Tr.S.deep.deeps l<=d->Tr.fitSs l->SynEnv w->HoldsS w Tr.zI l:=by
 intro d
 induction d with
 |zero=>
  intro l w hd hf hE W j x a1 a2 a3 hb hj hr;have:=(Tr.S.deep_in hd hj).1;omega
 |succ d ih=>
  intro l w hd hf hE W j x a1 a2 a3 hb hj hr;obtain⟨_,d1,d2⟩:=Tr.S.deep_in hd hj;obtain⟨f1,f2,f3⟩:=Tr.zPQ (Tr.zL3 hf hj);exact zKW x a1 a2 a3 W (hE.keep hb) f1 hr.1 hr.2.1 hr.2.2.1 hr.2.2.2 (ih _ W (by omega) f2 (hE.keep hb)) (ih _ W (by omega) f3 (hE.keep hb))
theorem holdsS {l:List Tr.S} {w:World} (hf:Tr.fitSs l) (hE:SynEnv w):HoldsS w Tr.zI l:=zPF _ l w (kL _) hf hE
theorem zON (m:Tr.M) (x y:Value) (w:World) (hE:SynEnv w) (hfit:Tr.fitM m) (hr:ReadM w m x y):
 Calls prog 76 #[methV m x y] w fun e w'=>e= .returned (.bool (Tr.validM m))/\Below w.heap.size w w':=by
 obtain⟨hnm,hp,hs⟩:=hr;obtain⟨px,cx,rfl⟩:=hp.form;obtain⟨py,cy,rfl,_⟩:=hs.form;obtain⟨q1,hq1⟩:∃q,Tr.varB m.name=q:=⟨_,rfl⟩;obtain⟨q2,hq2⟩:∃q,m.params.all Tr.varB=q:=⟨_,rfl⟩;obtain⟨q3,hq3⟩:∃q,Tr.zV m.body=q:=⟨_,rfl⟩;have KV:Hid (∀W,Below w.heap.size w W->Calls prog 63 #[.string m.name] W fun e w'=>e= .returned (.bool q1)/\Below W.heap.size W w'):=fun W hb=>by rw [<-hq1];exact zBA m.name W (hE.lex.keep hb) hnm
 have KN:Hid (∀W,Below w.heap.size w W->Calls prog 77 #[.slice px m.params.length cx,.func (.func 63) #[] #[]] W fun e w'=>e= .returned (.bool q2)/\Below W.heap.size W w'):=fun W hb=>by
  rw [<-hq2];exact zOJ Tr.varB m.params W (holdsN (hE.lex.keep hb) _) _ (hp.keep hb)
 have KS:Hid (∀W,Below w.heap.size w W->Calls prog 78 #[.slice py m.body.length cy,.func (.func 79) #[] #[]] W fun e w'=>e= .returned (.bool q3)/\Below W.heap.size W w'):=fun W hb=>by
  rw [<-hq3,<-zBE];exact zCJ Tr.zI m.body W (holdsS hfit (hE.keep hb)) _ (hs.keep hb)
 have hf:Hid (Tr.validM m=(q1 && q2 && q3)):=by show _=_;unfold Tr.validM;rw [hq1,hq2,hq3]
 obtain⟨PN,hPN⟩:∃N,m.params.length=N:=⟨_,rfl⟩;obtain⟨BN,hBN⟩:∃N,m.body.length=N:=⟨_,rfl⟩;rw [hPN] at KN;rw [hBN] at KS;have hbx:=zD w (.cells #[.string m.name,.slice px PN cx,.slice py BN cy] 62);have HC:=zh (fun j u h=>zJ w #[.string m.name,.slice px PN cx,.slice py BN cy] 62 j u h);have HB:=zh hbx;unfold methV;rw [hPN,hBN];clear hq1 hq2 hq3 hp hs hbx hE hfit hPN hBN;cases q1
 ·go_in;go_wp2_with fail;refine(KV _ HB).mono ?_;rintro e w2 ⟨rfl,hb2⟩;go_wp2;go_ret;exact⟨by rw [hf.out];rfl,zC HB hb2⟩
 ·cases q2
  ·go_in;go_wp2_with fail;refine(KV _ HB).mono ?_;rintro e w2 ⟨rfl,hb2⟩;have c1:=zA hb2 (HC 1 _ rfl);have HB2:=zh (zC HB hb2);clear hb2;go_wp2_with fail;refine(KN _ HB2).mono ?_;rintro e w3 ⟨rfl,hb3⟩;go_wp2;go_ret;exact⟨by rw [hf.out];rfl,zC HB2 hb3⟩
  ·go_in;go_wp2_with fail;refine(KV _ HB).mono ?_;rintro e w2 ⟨rfl,hb2⟩;have c1:=zA hb2 (HC 1 _ rfl);have c2:=zA hb2 (HC 2 _ rfl);have HB2:=zh (zC HB hb2);clear hb2;go_wp2_with fail;refine(KN _ HB2).mono ?_;rintro e w3 ⟨rfl,hb3⟩;have d2:=zA hb3 c2;have HB3:=zh (zC HB2 hb3);clear hb3;go_wp2_with fail;refine(KS _ HB3).mono ?_;rintro e w4 ⟨rfl,hb4⟩;go_wp2;go_ret;exact⟨by rw [hf.out];rfl,zC HB3 hb4⟩
theorem holdsM {w:World} (h:SynEnv w) (l:List Tr.M) (hf:∀m∈l,Tr.fitM m):HoldsM w Tr.validM l:=fun W _ x a1 a2 hb hj hr=>zON x a1 a2 W (h.keep hb) (hf x (kM hj)) hr
theorem zOM (VB:Nat) (m:Tr.C) (x y:Value) (w:World) (hE:SynEnv w) (hfit:Tr.fitC m) (hV:w.cell? ⟨VB,0,none⟩=some (.func (.func 76) #[] #[])) (hr:ReadC w m x y):
 Calls prog 81 #[classV m x y,.pointer (some ⟨VB,0,none⟩)] w fun e w'=>e= .returned (.bool (Tr.validC m))/\Below w.heap.size w w':=by
 obtain⟨hnm,hp,hs⟩:=hr;obtain⟨px,cx,rfl⟩:=hp.form;obtain⟨py,cy,rfl⟩:=hs.form;have hml:=hs.len;unfold maxLen at hml;obtain⟨q1,hq1⟩:∃q,Tr.clsB m.name=q:=⟨_,rfl⟩;obtain⟨q2,hq2⟩:∃q,m.fields.all Tr.varB=q:=⟨_,rfl⟩;obtain⟨q3,hq3⟩:∃q,m.methods.all Tr.validM=q:=⟨_,rfl⟩;have KV:Hid (∀W,Below w.heap.size w W->Calls prog 64 #[.string m.name] W fun e w'=>e= .returned (.bool q1)/\Below W.heap.size W w'):=fun W hb=>by rw [<-hq1];exact zH5 m.name W (hE.lex.keep hb) hnm
 have KN:Hid (∀W,Below w.heap.size w W->Calls prog 77 #[.slice px m.fields.length cx,.func (.func 63) #[] #[]] W fun e w'=>e= .returned (.bool q2)/\Below W.heap.size W w'):=fun W hb=>by
  rw [<-hq2];exact zOJ Tr.varB m.fields W (holdsN (hE.lex.keep hb) _) _ (hp.keep hb)
 have KS:Hid (∀W,Below w.heap.size w W->Calls prog 82 #[.slice py m.methods.length cy,.func (.func 76) #[] #[]] W fun e w'=>e= .returned (.bool q3)/\Below W.heap.size W w'):=fun W hb=>by
  rw [<-hq3];exact zUA Tr.validM m.methods W (holdsM (hE.keep hb) _ hfit) _ (hs.keep hb)
 obtain⟨act,hact⟩:∃a,m.actor=a:=⟨_,rfl⟩;obtain⟨PN,hPN⟩:∃N,m.fields.length=N:=⟨_,rfl⟩;obtain⟨BN,hBN⟩:∃N,m.methods.length=N:=⟨_,rfl⟩;have hf:Hid (Tr.validC m=(q1 && q2 && (act||decide (BN=0)) && q3)):=by show _=_;unfold Tr.validC;rw [hq1,hq2,hq3,hact,hBN]
 rw [hPN] at KN;rw [hBN] at KS hml;have hbx:=zD w (.cells #[.string m.name,.bool act,.slice px PN cx,.slice py BN cy] 55);have HC:=zh (fun j u h=>zJ w #[.string m.name,.bool act,.slice px PN cx,.slice py BN cy] 55 j u h);have HB:=zh hbx;have hV1:=zh (zA hbx hV);unfold classV;rw [hPN,hBN,hact];clear hq1 hq2 hq3 hp hs hbx hE hfit hPN hBN hact hV;cases q1
 ·go_in;go_wp2_with fail;refine(KV _ HB).mono ?_;rintro e w2 ⟨rfl,hb2⟩;go_wp2;go_ret;exact⟨by rw [hf.out];rfl,zC HB hb2⟩
 ·cases q2
  ·go_in;go_wp2_with fail;refine(KV _ HB).mono ?_;rintro e w2 ⟨rfl,hb2⟩;have c2:=zA hb2 (HC 2 _ rfl);have HB2:=zh (zC HB hb2);clear hb2;go_wp2_with fail;refine(KN _ HB2).mono ?_;rintro e w3 ⟨rfl,hb3⟩;go_wp2;go_ret;exact⟨by rw [hf.out];rfl,zC HB2 hb3⟩
  ·by_cases hz:act=false/\BN≠0
   ·obtain⟨rfl,hz⟩:=hz;have hz1:((BN:Int) == 0)=false:=kA.2 (by omega);have hf2:Hid (Tr.validC m=false):=by show _=_;rw [hf.out,kE hz];rfl
    clear hz;go_in;go_wp2_with fail;refine(KV _ HB).mono ?_;rintro e w2 ⟨rfl,hb2⟩;have c1:=zA hb2 (HC 1 _ rfl);have c2:=zA hb2 (HC 2 _ rfl);have c3:=zA hb2 (HC 3 _ rfl);have HB2:=zh (zC HB hb2);clear hb2;go_wp2_with fail;refine(KN _ HB2).mono ?_;rintro e w3 ⟨rfl,hb3⟩;have d1:=zA hb3 c1;have d3:=zA hb3 c3;have HB3:=zh (zC HB2 hb3);clear hb3;go_wp2;go_ret;exact⟨by rw [hf2.out];rfl,HB3⟩
   ·have hf2:Hid (Tr.validC m=q3):=by
     show _=_
     rw [hf.out];have:(act||decide (BN=0))=true:=by
      cases act
      ·rw [Bool.false_or];exact kS (by simpa using hz)
      ·rfl
     rw [this];rfl
    have hz':act=true\/(act=false/\BN=0):=by
     cases act
     ·right;exact⟨rfl,by simpa using hz⟩
     ·left;rfl
    clear hz;rcases hz' with rfl|⟨rfl,hz⟩
    ·go_in;go_wp2_with fail;refine(KV _ HB).mono ?_;rintro e w2 ⟨rfl,hb2⟩;have c1:=zA hb2 (HC 1 _ rfl);have c2:=zA hb2 (HC 2 _ rfl);have c3:=zA hb2 (HC 3 _ rfl);have v1:=zA hb2 hV1;have HB2:=zh (zC HB hb2);clear hb2;go_wp2_with fail;refine(KN _ HB2).mono ?_;rintro e w3 ⟨rfl,hb3⟩;have d1:=zA hb3 c1;have d3:=zA hb3 c3;have v2:=zA hb3 v1;have HB3:=zh (zC HB2 hb3);clear hb3;go_wp2_with fail;refine(KS _ HB3).mono ?_;rintro e w4 ⟨rfl,hb4⟩;go_wp2;go_ret;exact⟨by rw [hf2.out];rfl,zC HB3 hb4⟩
    ·have hz1:((BN:Int) == 0)=true:=kX.2 (by omega);clear hz;go_in;go_wp2_with fail;refine(KV _ HB).mono ?_;rintro e w2 ⟨rfl,hb2⟩;have c1:=zA hb2 (HC 1 _ rfl);have c2:=zA hb2 (HC 2 _ rfl);have c3:=zA hb2 (HC 3 _ rfl);have v1:=zA hb2 hV1;have HB2:=zh (zC HB hb2);clear hb2;go_wp2_with fail;refine(KN _ HB2).mono ?_;rintro e w3 ⟨rfl,hb3⟩;have d1:=zA hb3 c1;have d3:=zA hb3 c3;have v2:=zA hb3 v1;have HB3:=zh (zC HB2 hb3);clear hb3;go_wp2_with fail;refine(KS _ HB3).mono ?_;rintro e w4 ⟨rfl,hb4⟩;go_wp2;go_ret;exact⟨by rw [hf2.out];rfl,zC HB3 hb4⟩
theorem holdsC {w:World} (VB:Nat) (h:SynEnv w) (hV:w.cell? ⟨VB,0,none⟩=some (.func (.func 76) #[] #[])) (l:List Tr.C) (hf:Tr.fitP l):HoldsC VB w Tr.validC l:=fun W _ x a1 a2 hb hj hr=>zOM VB x a1 a2 W (h.keep hb) (hf x (kM hj)) (zA hb hV) hr
theorem zP5 (v:Value) (cs:List Tr.C) (w:World) (hE:SynEnv w) (hfit:Tr.fitP cs) (h:SlC w v cs):
 Calls prog 54 #[.agg #[v]] w fun r w'=>r= .returned (.bool (Tr.validP cs))/\Below w.heap.size w w':=by
 obtain⟨p,c,rfl⟩:=h.form;have KC:Hid (∀W,Below w.heap.size w W->∀VB,W.cell? ⟨VB,0,none⟩=some (.func (.func 76) #[] #[])->Calls prog 80 #[.slice p cs.length c,.func (.func 81) #[] #[.pointer (some ⟨VB,0,none⟩)]] W fun e w'=>e= .returned (.bool (Tr.validP cs))/\Below W.heap.size W w'):=fun W hb VB hV=>
  zUB VB Tr.validC cs W (holdsC VB (hE.keep hb) hV _ hfit) _ (h.keep hb)
 obtain⟨N,hN⟩:∃N,cs.length=N:=⟨_,rfl⟩;rw [hN] at KC |-;have hbx:=zC (zD w (.cells #[.slice p N c] 24)) (zD (w.alloc (.cells #[.slice p N c] 24)) (.cells #[.func (.func 76) #[] #[]] 137));have hcl2:=zJ (w.alloc (.cells #[.slice p N c] 24)) #[.func (.func 76) #[] #[]] 137 0 _ rfl;simp only [World.size_alloc] at hcl2;have HC:=zh (KC _ hbx _ hcl2);have HBX:=zh hbx;clear h hE hfit hN hbx hcl2 KC;go_in;go_wp2_with fail;refine HC.mono ?_;rintro e w2 ⟨rfl,hb2⟩;go_wp2;go_ret;exact⟨rfl,zC HBX hb2⟩
end
section
open Go.RowKit Go.Maps
theorem errInfo:(prog.info? 30).map (fun i=>(i.zero,i.size,i.bytes))=some (some (.int .i64 0),1,8):=by kernel_rfl
def codeCells (l:List Nat):List Value:=l.map fun (n:Nat)=>Value.int .i64 (n:Int)
def CheckPost (cs:List Tr.C) (w:World) (e:Ending) (w':World):Prop:=
 ∃v,e= .returned v/\w'.ownsRow w.heap.size 30 1 v (Ck.check cs).length (codeCells (Ck.check cs))/\Below w.heap.size w w'
theorem zN6 {f:Nat->Bool} {t:Nat} (h:t∈Ck.found f):t<13:=by
 unfold Ck.found at h;have:=(List.mem_filter.1 h).1
 simpa using this
theorem zNS (cs:List Tr.C) (c:Tr.C):∀(l:List Tr.M) (k:Nat),∀x∈Ck.rowsM cs c l k,x.2<13
 | [],k=>by intro x hx;cases hx
 |m::r,k=>by
  intro x hx;rw [Ck.rowsM,kU] at hx;rcases hx with hx|hx
  ·obtain⟨t,ht,rfl⟩:=List.mem_map.1 hx;exact zN6 ht
  ·exact zNS cs c r (k+1) x hx
theorem zJ5 (cs:List Tr.C):∀(l:List Tr.C) (i:Nat),∀x∈Ck.rowsC cs l i,x.2<13
 | [],i=>by intro x hx;cases hx
 |c::r,i=>by
  intro x hx;rw [Ck.rowsC,kU,kU] at hx;rcases hx with (hx|hx)|hx
  ·obtain⟨t,ht,rfl⟩:=List.mem_map.1 hx;exact zN6 ht
  ·exact zNS cs c c.methods 0 x hx
  ·exact zJ5 cs r (i+1) x hx
theorem zPX (cs:List Tr.C) (h:Tr.validP cs=true):Ck.check cs=(Ck.rows cs).map fun x=>Ck.code x.2:=by
 unfold Ck.check;rw [kD h];have:=congrArg (List.map Ck.code) (Ck.zI3 cs);rw [List.map_map,List.map_map] at this;exact this.symm
theorem zU5 {w:World} {base:Nat} {v:Value} {l:List (BA × Nat)} (h:w.ownsRow base 99 2 v l.length (zA7 l)) {k:Nat} {x:BA × Nat} (hk:l[k]? =some x):
 ∃g cap,v= .slice (some ⟨g,0,none⟩) l.length cap/\g<w.heap.size/\l.length<=cap/\w.cell? ⟨g,k*2,none⟩=some (.string x.1)/\w.cell? ⟨g,k*2+1,none⟩=some (.int .i64 (x.2:Nat)):=by
 have hlt:k<l.length:=(kJ.1 hk).1;rcases h.2 with ⟨_,h0⟩|⟨g,cap,cur,rfl,_,hg,hnc,_,hcs,htk⟩
 ·omega
 ·have hrow:(zA7 l)[k*2]? =some (.string x.1)/\(zA7 l)[k*2+1]? =some (.int .i64 (x.2:Nat)):=by
   clear h htk hnc hcs hlt
   induction l generalizing k with
   |nil=>simp at hk
   |cons y r ih=>
    cases k with
    |zero=>cases hk;exact⟨rfl,rfl⟩
    |succ k=>
     have h2:=ih (by simpa using hk);have e:zA7 (y::r)= .string y.1:: .int .i64 (y.2:Int)::zA7 r:=rfl;rw [e,show(k+1)*2=k*2+1+1 by omega];exact h2
  have at_:∀j u,(zA7 l)[j]? =some u->w.cell? ⟨g,j,none⟩=some u:=by
   intro j u hj;have hj2:=(kJ.1 hj).1;rw [h.1] at hj2;rw [<-htk,List.getElem?_take_of_lt hj2] at hj;exact zB8 hg (by rw [<-Array.getElem?_toList];exact hj)
  exact⟨g,cap,rfl,lt_of_block hg,hnc,at_ _ _ hrow.1,at_ _ _ hrow.2⟩
theorem zJ9 {w:World} {b b':Nat} {e:TypeId} {size n:Nat} {v:Value} {xs:List Value} (h:w.ownsRow b e size v n xs) (hb:b'<=b):w.ownsRow b' e size v n xs:=by
 refine⟨h.1,?_⟩;rcases h.2 with h|⟨g,cap,cur,h1,h2,h3⟩
 ·exact .inl h
 ·exact .inr ⟨g,cap,cur,h1,kG hb h2,h3⟩
theorem own_form {w:World} {b:Nat} {e:TypeId} {size n:Nat} {v:Value} {xs:List Value} (h:w.ownsRow b e size v n xs):∃p cap,v= .slice p n cap:=by
 rcases h.2 with ⟨rfl,rfl⟩|⟨g,cap,cur,rfl,_⟩
 ·exact⟨_,_,rfl⟩
 ·exact⟨_,_,rfl⟩
end
end Go.Proofs.YtcnmfcgmnkncaaaGreatDoor
