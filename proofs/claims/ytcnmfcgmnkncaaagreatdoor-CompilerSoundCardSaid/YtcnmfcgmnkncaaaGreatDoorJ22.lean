/-
  Several texts in one: TrProgCa, TrProgCb.
-/
import Derived.Test.YtcnmfcgmnkncaaaGreatDoorJ21
namespace Go.Proofs.YtcnmfcgmnkncaaaGreatDoor
open Go.RowKit
set_option maxRecDepth 100000 in
set_option maxHeartbeats 40000000 in
theorem zKX (s:Tr.S) (x y z:Value) (w:World) (hkk:s.kind=0∨s.kind=1∨s.kind=2) (hE:SynEnv w) (hfit:s.exprs.length≤4611686018427387904) (hkb:BdS s) (hx:SlE w x s.exprs) (hy:SlS w y s.body) (hz:SlS w z s.els) (h1:HoldsS w Tr.validS s.body) (h2:HoldsS w Tr.validS s.els):
 Calls Tryz.prog 79 #[stmtV s x y z] w fun r w'=>r= .returned (.bool (Tr.validS s))∧Below w.heap.size w w':=by
 obtain⟨k,nm,l,b,els⟩:=s
 have hsz:nm.size≤maxLen:=hkb.name
 have hx':SlE w x l:=hx
 have hy':SlS w y b:=hy
 have hz':SlS w z els:=hz
 have hfit':l.length≤4611686018427387904:=hfit
 have hk1:=hkb.kind
 have hcs:k=0∨k=1∨k=2:=hkk
 clear hkk
 obtain⟨p,c,rfl,_⟩:=hx'.form
 obtain⟨py,cy,rfl,_⟩:=hy'.form
 obtain⟨pz,cz,rfl,_⟩:=hz'.form
 obtain⟨X,hX⟩:∃N,l.length=N:=⟨_,rfl⟩
 obtain⟨NB,hNB⟩:∃N,b.length=N:=⟨_,rfl⟩
 obtain⟨NE,hNE⟩:∃N,els.length=N:=⟨_,rfl⟩
 have hlb:=hy'.len
 have hle:=hz'.len
 unfold maxLen at hlb hle
 rw [hX] at hx' hfit' ⊢
 rw [hNB] at hy' hlb ⊢
 rw [hNE] at hz' hle ⊢
 obtain⟨qe,hqe⟩:∃q,Tr.validEs l=q:=⟨_,rfl⟩
 obtain⟨qb1,hq1⟩:∃q,Tr.validSs b=q:=⟨_,rfl⟩
 obtain⟨qb2,hq2⟩:∃q,Tr.validSs els=q:=⟨_,rfl⟩
 have KV:Hid (∀W,Below w.heap.size w W→Calls Tryz.prog 63 #[.string nm] W fun e w'=>e= .returned (.bool (Tr.varB nm))∧Below W.heap.size W w'):=fun W hb=>zAE nm W (hE.lex.keep hb) hsz
 have KE:Hid (∀W,Below w.heap.size w W→Calls Tryz.prog 118 #[.slice p X c,.func (.func 40) #[] #[]] W fun e w'=>e= .returned (.bool qe)∧Below W.heap.size W w'):=fun W hb=>by
  have:=zFW Tr.validE l W (holdsE (hE.lex.keep hb) l) _ (hx'.keep hb)
  rw [zCC,hqe] at this;exact this
 have KB1:Hid (∀W,Below w.heap.size w W→Calls Tryz.prog 78 #[.slice py NB cy,.func (.func 79) #[] #[]] W fun e w'=>e= .returned (.bool qb1)∧Below W.heap.size W w'):=fun W hb=>by
  have:=zBI Tr.validS b W (fun W' j x a1 a2 a3 hb'=>h1 W' j x a1 a2 a3 (zC hb hb')) _ (hy'.keep hb)
  rw [zAL,hq1] at this;exact this
 have KB2:Hid (∀W,Below w.heap.size w W→Calls Tryz.prog 78 #[.slice pz NE cz,.func (.func 79) #[] #[]] W fun e w'=>e= .returned (.bool qb2)∧Below W.heap.size W w'):=fun W hb=>by
  have:=zBI Tr.validS els W (fun W' j x a1 a2 a3 hb'=>h2 W' j x a1 a2 a3 (zC hb hb')) _ (hz'.keep hb)
  rw [zAL,hq2] at this;exact this
 have hval:Hid (Tr.validS (.mk k nm l b els)=(qe && (Tr.okS k nm X NB NE && (qb1 && qb2)))):=by rw [Tr.validS,hX,hNB,hNE,hqe,hq1,hq2];show(_ && _ && _ && _)=_;rw [Bool.and_assoc,Bool.and_assoc]
 have hno:Hid (Tr.okS k nm X NB NE=false→Tr.validS (.mk k nm l b els)=false):=fun h=>by rw [hval.out,h,Bool.false_and,Bool.and_false]
 have hyes:Hid (Tr.okS k nm X NB NE=true→Tr.validS (.mk k nm l b els)=(qe && (qb1 && qb2))):=fun h=>by rw [hval.out,h,Bool.true_and]
 unfold stmtV
 simp only [Tr.S.kind,Tr.S.name]
 have HX:=zh hx'
 have hb1:=zD w (.cells #[.int .i64 k,.string nm,.slice p X c,.slice py NB cy,.slice pz NE cz] 71)
 have HB1:=zh hb1
 have HFm:=zh (fun j u hu=>zA hb1 (hE.forms j u hu))
 have HC:=zh (fun j u h=>zP w #[.int .i64 k,.string nm,.slice p X c,.slice py NB cy,.slice pz NE cz] 71 j u h)
 clear hx hx' hy hy' hz hz' h1 h2 hkb hX hNB hNE hsz hq1 hq2 hqe hE hfit hb1
 rcases hcs with rfl|rfl|rfl
 ·skip
  have q0:=HFm.out 0 _ rfl
  have q1:=HFm.out 1 _ rfl
  have q2:=HFm.out 2 _ rfl
  have q3:=HFm.out 3 _ rfl
  have q4:=HFm.out 4 _ rfl
  have hb2:=zD (w.alloc (.cells #[.int .i64 0,.string nm,.slice p X c,.slice py NB cy,.slice pz NE cz] 71)) (.cells #[.int .i64 1,.int .i64 1,.bool true,.bool false,.bool false] 179)
  have HBW:=zh (zC HB1.out hb2)
  have g:=fun j u h=>zP (w.alloc (.cells #[.int .i64 0,.string nm,.slice p X c,.slice py NB cy,.slice pz NE cz] 71)) #[.int .i64 1,.int .i64 1,.bool true,.bool false,.bool false] 179 j u h
  have HG:=zh g
  have HC2:=zh (fun j u h=>zA hb2 (HC.out j u h))
  clear g hb2 hk1
  by_cases hlo:X<1
  ·skip
   have hf:=zh (hno.out (by rw [okS_0,decide_eq_false (fun h=>by omega)];rfl))
   go_enter Tryz.func79,Tryz.ntmps79
   go_wp2_with fail
   go_ret
   exact⟨by rw [hf.out];rfl,HBW.out⟩
  ·have hlo':1≤X:=by omega
   clear hlo
   by_cases hhi:1<X
   ·skip
    have hf:=zh (hno.out (by rw [okS_0,decide_eq_false (fun h=>by omega)];rfl))
    go_enter Tryz.func79,Tryz.ntmps79
    go_wp2_with fail
    go_ret
    exact⟨by rw [hf.out];rfl,HBW.out⟩
   ·have hhi':X≤1:=by omega
    clear hhi
    cases hv:Tr.varB nm
    ·rw [hv] at KV
     have hf:=zh (hno.out (by rw [okS_0,hv,Bool.and_false]))
     clear hv
     go_enter Tryz.func79,Tryz.ntmps79
     go_wp2_with fail
     refine(KV.out _ HBW.out).mono ?_
     rintro e w3 ⟨rfl,hb3⟩
     have c2:=zA hb3 (HC2.out 2 _ rfl)
     have c3:=zA hb3 (HC2.out 3 _ rfl)
     have c4:=zA hb3 (HC2.out 4 _ rfl)
     have g2:=zA hb3 (HG.out 2 _ rfl)
     have g3:=zA hb3 (HG.out 3 _ rfl)
     have g4:=zA hb3 (HG.out 4 _ rfl)
     simp only [World.size_alloc] at g2 g3 g4
     have HB3:=zh (zC HBW.out hb3)
     clear hb3
     go_wp2_with fail
     go_ret
     exact⟨by rw [hf.out];rfl,HB3.out⟩
    ·rw [hv] at KV
     have hvt:=zh hv
     clear hv
     by_cases hnb:0<NB
     ·have hf:=zh (hno.out (by rw [okS_0,decide_eq_false (fun h=>by omega)];rfl))
      go_enter Tryz.func79,Tryz.ntmps79
      go_wp2_with fail
      refine(KV.out _ HBW.out).mono ?_
      rintro e w3 ⟨rfl,hb3⟩
      have c2:=zA hb3 (HC2.out 2 _ rfl)
      have c3:=zA hb3 (HC2.out 3 _ rfl)
      have c4:=zA hb3 (HC2.out 4 _ rfl)
      have g2:=zA hb3 (HG.out 2 _ rfl)
      have g3:=zA hb3 (HG.out 3 _ rfl)
      have g4:=zA hb3 (HG.out 4 _ rfl)
      simp only [World.size_alloc] at g2 g3 g4
      have HB3:=zh (zC HBW.out hb3)
      clear hb3
      go_wp2_with fail
      go_ret
      exact⟨by rw [hf.out];rfl,HB3.out⟩
     ·have hnb':NB≤0:=by omega
      clear hnb
      by_cases hne:0<NE
      ·have hf:=zh (hno.out (by rw [okS_0,decide_eq_false (fun h=>by omega)];rfl))
       go_enter Tryz.func79,Tryz.ntmps79
       go_wp2_with fail
       refine(KV.out _ HBW.out).mono ?_
       rintro e w3 ⟨rfl,hb3⟩
       have c2:=zA hb3 (HC2.out 2 _ rfl)
       have c3:=zA hb3 (HC2.out 3 _ rfl)
       have c4:=zA hb3 (HC2.out 4 _ rfl)
       have g2:=zA hb3 (HG.out 2 _ rfl)
       have g3:=zA hb3 (HG.out 3 _ rfl)
       have g4:=zA hb3 (HG.out 4 _ rfl)
       simp only [World.size_alloc] at g2 g3 g4
       have HB3:=zh (zC HBW.out hb3)
       clear hb3
       go_wp2_with fail
       go_ret
       exact⟨by rw [hf.out];rfl,HB3.out⟩
      ·have hne':NE≤0:=by omega
       clear hne
       have hf:=zh (hyes.out (by rw [okS_0,hvt.out,Bool.and_true];exact decide_eq_true ⟨by omega,by omega,by omega⟩))
       cases qe
       ·skip
        go_enter Tryz.func79,Tryz.ntmps79
        go_wp2_with fail
        refine(KV.out _ HBW.out).mono ?_
        rintro e w3 ⟨rfl,hb3⟩
        have c2:=zA hb3 (HC2.out 2 _ rfl)
        have c3:=zA hb3 (HC2.out 3 _ rfl)
        have c4:=zA hb3 (HC2.out 4 _ rfl)
        have g2:=zA hb3 (HG.out 2 _ rfl)
        have g3:=zA hb3 (HG.out 3 _ rfl)
        have g4:=zA hb3 (HG.out 4 _ rfl)
        simp only [World.size_alloc] at g2 g3 g4
        have HB3:=zh (zC HBW.out hb3)
        clear hb3
        go_wp2_with fail
        refine(KE.out _ HB3.out).mono ?_
        rintro e w5 ⟨rfl,hb5⟩
        go_wp2_with fail
        go_ret
        exact⟨by rw [hf.out];rfl,zC HB3.out hb5⟩
       ·cases qb1
        ·skip
         go_enter Tryz.func79,Tryz.ntmps79
         go_wp2_with fail
         refine(KV.out _ HBW.out).mono ?_
         rintro e w3 ⟨rfl,hb3⟩
         have c2:=zA hb3 (HC2.out 2 _ rfl)
         have c3:=zA hb3 (HC2.out 3 _ rfl)
         have c4:=zA hb3 (HC2.out 4 _ rfl)
         have g2:=zA hb3 (HG.out 2 _ rfl)
         have g3:=zA hb3 (HG.out 3 _ rfl)
         have g4:=zA hb3 (HG.out 4 _ rfl)
         simp only [World.size_alloc] at g2 g3 g4
         have HB3:=zh (zC HBW.out hb3)
         clear hb3
         go_wp2_with fail
         refine(KE.out _ HB3.out).mono ?_
         rintro e w5 ⟨rfl,hb5⟩
         have r3:=zA hb5 c3
         have r4:=zA hb5 c4
         have HB5:=zh (zC HB3.out hb5)
         clear hb5
         go_wp2_with fail
         refine(KB1.out _ HB5.out).mono ?_
         rintro e w6 ⟨rfl,hb6⟩
         go_wp2_with fail
         go_ret
         exact⟨by rw [hf.out];rfl,zC HB5.out hb6⟩
        ·skip
         go_enter Tryz.func79,Tryz.ntmps79
         go_wp2_with fail
         refine(KV.out _ HBW.out).mono ?_
         rintro e w3 ⟨rfl,hb3⟩
         have c2:=zA hb3 (HC2.out 2 _ rfl)
         have c3:=zA hb3 (HC2.out 3 _ rfl)
         have c4:=zA hb3 (HC2.out 4 _ rfl)
         have g2:=zA hb3 (HG.out 2 _ rfl)
         have g3:=zA hb3 (HG.out 3 _ rfl)
         have g4:=zA hb3 (HG.out 4 _ rfl)
         simp only [World.size_alloc] at g2 g3 g4
         have HB3:=zh (zC HBW.out hb3)
         clear hb3
         go_wp2_with fail
         refine(KE.out _ HB3.out).mono ?_
         rintro e w5 ⟨rfl,hb5⟩
         have r3:=zA hb5 c3
         have r4:=zA hb5 c4
         have HB5:=zh (zC HB3.out hb5)
         clear hb5
         go_wp2_with fail
         refine(KB1.out _ HB5.out).mono ?_
         rintro e w6 ⟨rfl,hb6⟩
         have s4:=zA hb6 r4
         have HB6:=zh (zC HB5.out hb6)
         clear hb6
         go_wp2_with fail
         refine(KB2.out _ HB6.out).mono ?_
         rintro e w7 ⟨rfl,hb7⟩
         go_wp2_with fail
         go_ret
         exact⟨by rw [hf.out];rfl,zC HB6.out hb7⟩
 ·skip
  have q0:=HFm.out 5 _ rfl
  have q1:=HFm.out 6 _ rfl
  have q2:=HFm.out 7 _ rfl
  have q3:=HFm.out 8 _ rfl
  have q4:=HFm.out 9 _ rfl
  have hb2:=zD (w.alloc (.cells #[.int .i64 1,.string nm,.slice p X c,.slice py NB cy,.slice pz NE cz] 71)) (.cells #[.int .i64 1,.int .i64 1,.bool true,.bool false,.bool false] 179)
  have HBW:=zh (zC HB1.out hb2)
  have g:=fun j u h=>zP (w.alloc (.cells #[.int .i64 1,.string nm,.slice p X c,.slice py NB cy,.slice pz NE cz] 71)) #[.int .i64 1,.int .i64 1,.bool true,.bool false,.bool false] 179 j u h
  have HG:=zh g
  have HC2:=zh (fun j u h=>zA hb2 (HC.out j u h))
  clear g hb2 hk1
  by_cases hlo:X<1
  ·skip
   have hf:=zh (hno.out (by rw [okS_1,decide_eq_false (fun h=>by omega)];rfl))
   go_enter Tryz.func79,Tryz.ntmps79
   go_wp2_with fail
   go_ret
   exact⟨by rw [hf.out];rfl,HBW.out⟩
  ·have hlo':1≤X:=by omega
   clear hlo
   by_cases hhi:1<X
   ·skip
    have hf:=zh (hno.out (by rw [okS_1,decide_eq_false (fun h=>by omega)];rfl))
    go_enter Tryz.func79,Tryz.ntmps79
    go_wp2_with fail
    go_ret
    exact⟨by rw [hf.out];rfl,HBW.out⟩
   ·have hhi':X≤1:=by omega
    clear hhi
    cases hv:Tr.varB nm
    ·rw [hv] at KV
     have hf:=zh (hno.out (by rw [okS_1,hv,Bool.and_false]))
     clear hv
     go_enter Tryz.func79,Tryz.ntmps79
     go_wp2_with fail
     refine(KV.out _ HBW.out).mono ?_
     rintro e w3 ⟨rfl,hb3⟩
     have c2:=zA hb3 (HC2.out 2 _ rfl)
     have c3:=zA hb3 (HC2.out 3 _ rfl)
     have c4:=zA hb3 (HC2.out 4 _ rfl)
     have g2:=zA hb3 (HG.out 2 _ rfl)
     have g3:=zA hb3 (HG.out 3 _ rfl)
     have g4:=zA hb3 (HG.out 4 _ rfl)
     simp only [World.size_alloc] at g2 g3 g4
     have HB3:=zh (zC HBW.out hb3)
     clear hb3
     go_wp2_with fail
     go_ret
     exact⟨by rw [hf.out];rfl,HB3.out⟩
    ·rw [hv] at KV
     have hvt:=zh hv
     clear hv
     by_cases hnb:0<NB
     ·have hf:=zh (hno.out (by rw [okS_1,decide_eq_false (fun h=>by omega)];rfl))
      go_enter Tryz.func79,Tryz.ntmps79
      go_wp2_with fail
      refine(KV.out _ HBW.out).mono ?_
      rintro e w3 ⟨rfl,hb3⟩
      have c2:=zA hb3 (HC2.out 2 _ rfl)
      have c3:=zA hb3 (HC2.out 3 _ rfl)
      have c4:=zA hb3 (HC2.out 4 _ rfl)
      have g2:=zA hb3 (HG.out 2 _ rfl)
      have g3:=zA hb3 (HG.out 3 _ rfl)
      have g4:=zA hb3 (HG.out 4 _ rfl)
      simp only [World.size_alloc] at g2 g3 g4
      have HB3:=zh (zC HBW.out hb3)
      clear hb3
      go_wp2_with fail
      go_ret
      exact⟨by rw [hf.out];rfl,HB3.out⟩
     ·have hnb':NB≤0:=by omega
      clear hnb
      by_cases hne:0<NE
      ·have hf:=zh (hno.out (by rw [okS_1,decide_eq_false (fun h=>by omega)];rfl))
       go_enter Tryz.func79,Tryz.ntmps79
       go_wp2_with fail
       refine(KV.out _ HBW.out).mono ?_
       rintro e w3 ⟨rfl,hb3⟩
       have c2:=zA hb3 (HC2.out 2 _ rfl)
       have c3:=zA hb3 (HC2.out 3 _ rfl)
       have c4:=zA hb3 (HC2.out 4 _ rfl)
       have g2:=zA hb3 (HG.out 2 _ rfl)
       have g3:=zA hb3 (HG.out 3 _ rfl)
       have g4:=zA hb3 (HG.out 4 _ rfl)
       simp only [World.size_alloc] at g2 g3 g4
       have HB3:=zh (zC HBW.out hb3)
       clear hb3
       go_wp2_with fail
       go_ret
       exact⟨by rw [hf.out];rfl,HB3.out⟩
      ·have hne':NE≤0:=by omega
       clear hne
       have hf:=zh (hyes.out (by rw [okS_1,hvt.out,Bool.and_true];exact decide_eq_true ⟨by omega,by omega,by omega⟩))
       cases qe
       ·skip
        go_enter Tryz.func79,Tryz.ntmps79
        go_wp2_with fail
        refine(KV.out _ HBW.out).mono ?_
        rintro e w3 ⟨rfl,hb3⟩
        have c2:=zA hb3 (HC2.out 2 _ rfl)
        have c3:=zA hb3 (HC2.out 3 _ rfl)
        have c4:=zA hb3 (HC2.out 4 _ rfl)
        have g2:=zA hb3 (HG.out 2 _ rfl)
        have g3:=zA hb3 (HG.out 3 _ rfl)
        have g4:=zA hb3 (HG.out 4 _ rfl)
        simp only [World.size_alloc] at g2 g3 g4
        have HB3:=zh (zC HBW.out hb3)
        clear hb3
        go_wp2_with fail
        refine(KE.out _ HB3.out).mono ?_
        rintro e w5 ⟨rfl,hb5⟩
        go_wp2_with fail
        go_ret
        exact⟨by rw [hf.out];rfl,zC HB3.out hb5⟩
       ·cases qb1
        ·skip
         go_enter Tryz.func79,Tryz.ntmps79
         go_wp2_with fail
         refine(KV.out _ HBW.out).mono ?_
         rintro e w3 ⟨rfl,hb3⟩
         have c2:=zA hb3 (HC2.out 2 _ rfl)
         have c3:=zA hb3 (HC2.out 3 _ rfl)
         have c4:=zA hb3 (HC2.out 4 _ rfl)
         have g2:=zA hb3 (HG.out 2 _ rfl)
         have g3:=zA hb3 (HG.out 3 _ rfl)
         have g4:=zA hb3 (HG.out 4 _ rfl)
         simp only [World.size_alloc] at g2 g3 g4
         have HB3:=zh (zC HBW.out hb3)
         clear hb3
         go_wp2_with fail
         refine(KE.out _ HB3.out).mono ?_
         rintro e w5 ⟨rfl,hb5⟩
         have r3:=zA hb5 c3
         have r4:=zA hb5 c4
         have HB5:=zh (zC HB3.out hb5)
         clear hb5
         go_wp2_with fail
         refine(KB1.out _ HB5.out).mono ?_
         rintro e w6 ⟨rfl,hb6⟩
         go_wp2_with fail
         go_ret
         exact⟨by rw [hf.out];rfl,zC HB5.out hb6⟩
        ·skip
         go_enter Tryz.func79,Tryz.ntmps79
         go_wp2_with fail
         refine(KV.out _ HBW.out).mono ?_
         rintro e w3 ⟨rfl,hb3⟩
         have c2:=zA hb3 (HC2.out 2 _ rfl)
         have c3:=zA hb3 (HC2.out 3 _ rfl)
         have c4:=zA hb3 (HC2.out 4 _ rfl)
         have g2:=zA hb3 (HG.out 2 _ rfl)
         have g3:=zA hb3 (HG.out 3 _ rfl)
         have g4:=zA hb3 (HG.out 4 _ rfl)
         simp only [World.size_alloc] at g2 g3 g4
         have HB3:=zh (zC HBW.out hb3)
         clear hb3
         go_wp2_with fail
         refine(KE.out _ HB3.out).mono ?_
         rintro e w5 ⟨rfl,hb5⟩
         have r3:=zA hb5 c3
         have r4:=zA hb5 c4
         have HB5:=zh (zC HB3.out hb5)
         clear hb5
         go_wp2_with fail
         refine(KB1.out _ HB5.out).mono ?_
         rintro e w6 ⟨rfl,hb6⟩
         have s4:=zA hb6 r4
         have HB6:=zh (zC HB5.out hb6)
         clear hb6
         go_wp2_with fail
         refine(KB2.out _ HB6.out).mono ?_
         rintro e w7 ⟨rfl,hb7⟩
         go_wp2_with fail
         go_ret
         exact⟨by rw [hf.out];rfl,zC HB6.out hb7⟩
 ·skip
  have q0:=HFm.out 10 _ rfl
  have q1:=HFm.out 11 _ rfl
  have q2:=HFm.out 12 _ rfl
  have q3:=HFm.out 13 _ rfl
  have q4:=HFm.out 14 _ rfl
  have hb2:=zD (w.alloc (.cells #[.int .i64 2,.string nm,.slice p X c,.slice py NB cy,.slice pz NE cz] 71)) (.cells #[.int .i64 2,.int .i64 2,.bool true,.bool false,.bool false] 179)
  have HBW:=zh (zC HB1.out hb2)
  have g:=fun j u h=>zP (w.alloc (.cells #[.int .i64 2,.string nm,.slice p X c,.slice py NB cy,.slice pz NE cz] 71)) #[.int .i64 2,.int .i64 2,.bool true,.bool false,.bool false] 179 j u h
  have HG:=zh g
  have HC2:=zh (fun j u h=>zA hb2 (HC.out j u h))
  clear g hb2 hk1
  by_cases hlo:X<2
  ·skip
   have hf:=zh (hno.out (by rw [okS_2,decide_eq_false (fun h=>by omega)];rfl))
   go_enter Tryz.func79,Tryz.ntmps79
   go_wp2_with fail
   go_ret
   exact⟨by rw [hf.out];rfl,HBW.out⟩
  ·have hlo':2≤X:=by omega
   clear hlo
   by_cases hhi:2<X
   ·skip
    have hf:=zh (hno.out (by rw [okS_2,decide_eq_false (fun h=>by omega)];rfl))
    go_enter Tryz.func79,Tryz.ntmps79
    go_wp2_with fail
    go_ret
    exact⟨by rw [hf.out];rfl,HBW.out⟩
   ·have hhi':X≤2:=by omega
    clear hhi
    cases hv:Tr.varB nm
    ·rw [hv] at KV
     have hf:=zh (hno.out (by rw [okS_2,hv,Bool.and_false]))
     clear hv
     go_enter Tryz.func79,Tryz.ntmps79
     go_wp2_with fail
     refine(KV.out _ HBW.out).mono ?_
     rintro e w3 ⟨rfl,hb3⟩
     have c2:=zA hb3 (HC2.out 2 _ rfl)
     have c3:=zA hb3 (HC2.out 3 _ rfl)
     have c4:=zA hb3 (HC2.out 4 _ rfl)
     have g2:=zA hb3 (HG.out 2 _ rfl)
     have g3:=zA hb3 (HG.out 3 _ rfl)
     have g4:=zA hb3 (HG.out 4 _ rfl)
     simp only [World.size_alloc] at g2 g3 g4
     have HB3:=zh (zC HBW.out hb3)
     clear hb3
     go_wp2_with fail
     go_ret
     exact⟨by rw [hf.out];rfl,HB3.out⟩
    ·rw [hv] at KV
     have hvt:=zh hv
     clear hv
     by_cases hnb:0<NB
     ·have hf:=zh (hno.out (by rw [okS_2,decide_eq_false (fun h=>by omega)];rfl))
      go_enter Tryz.func79,Tryz.ntmps79
      go_wp2_with fail
      refine(KV.out _ HBW.out).mono ?_
      rintro e w3 ⟨rfl,hb3⟩
      have c2:=zA hb3 (HC2.out 2 _ rfl)
      have c3:=zA hb3 (HC2.out 3 _ rfl)
      have c4:=zA hb3 (HC2.out 4 _ rfl)
      have g2:=zA hb3 (HG.out 2 _ rfl)
      have g3:=zA hb3 (HG.out 3 _ rfl)
      have g4:=zA hb3 (HG.out 4 _ rfl)
      simp only [World.size_alloc] at g2 g3 g4
      have HB3:=zh (zC HBW.out hb3)
      clear hb3
      go_wp2_with fail
      go_ret
      exact⟨by rw [hf.out];rfl,HB3.out⟩
     ·have hnb':NB≤0:=by omega
      clear hnb
      by_cases hne:0<NE
      ·have hf:=zh (hno.out (by rw [okS_2,decide_eq_false (fun h=>by omega)];rfl))
       go_enter Tryz.func79,Tryz.ntmps79
       go_wp2_with fail
       refine(KV.out _ HBW.out).mono ?_
       rintro e w3 ⟨rfl,hb3⟩
       have c2:=zA hb3 (HC2.out 2 _ rfl)
       have c3:=zA hb3 (HC2.out 3 _ rfl)
       have c4:=zA hb3 (HC2.out 4 _ rfl)
       have g2:=zA hb3 (HG.out 2 _ rfl)
       have g3:=zA hb3 (HG.out 3 _ rfl)
       have g4:=zA hb3 (HG.out 4 _ rfl)
       simp only [World.size_alloc] at g2 g3 g4
       have HB3:=zh (zC HBW.out hb3)
       clear hb3
       go_wp2_with fail
       go_ret
       exact⟨by rw [hf.out];rfl,HB3.out⟩
      ·have hne':NE≤0:=by omega
       clear hne
       have hf:=zh (hyes.out (by rw [okS_2,hvt.out,Bool.and_true];exact decide_eq_true ⟨by omega,by omega,by omega⟩))
       cases qe
       ·skip
        go_enter Tryz.func79,Tryz.ntmps79
        go_wp2_with fail
        refine(KV.out _ HBW.out).mono ?_
        rintro e w3 ⟨rfl,hb3⟩
        have c2:=zA hb3 (HC2.out 2 _ rfl)
        have c3:=zA hb3 (HC2.out 3 _ rfl)
        have c4:=zA hb3 (HC2.out 4 _ rfl)
        have g2:=zA hb3 (HG.out 2 _ rfl)
        have g3:=zA hb3 (HG.out 3 _ rfl)
        have g4:=zA hb3 (HG.out 4 _ rfl)
        simp only [World.size_alloc] at g2 g3 g4
        have HB3:=zh (zC HBW.out hb3)
        clear hb3
        go_wp2_with fail
        refine(KE.out _ HB3.out).mono ?_
        rintro e w5 ⟨rfl,hb5⟩
        go_wp2_with fail
        go_ret
        exact⟨by rw [hf.out];rfl,zC HB3.out hb5⟩
       ·cases qb1
        ·skip
         go_enter Tryz.func79,Tryz.ntmps79
         go_wp2_with fail
         refine(KV.out _ HBW.out).mono ?_
         rintro e w3 ⟨rfl,hb3⟩
         have c2:=zA hb3 (HC2.out 2 _ rfl)
         have c3:=zA hb3 (HC2.out 3 _ rfl)
         have c4:=zA hb3 (HC2.out 4 _ rfl)
         have g2:=zA hb3 (HG.out 2 _ rfl)
         have g3:=zA hb3 (HG.out 3 _ rfl)
         have g4:=zA hb3 (HG.out 4 _ rfl)
         simp only [World.size_alloc] at g2 g3 g4
         have HB3:=zh (zC HBW.out hb3)
         clear hb3
         go_wp2_with fail
         refine(KE.out _ HB3.out).mono ?_
         rintro e w5 ⟨rfl,hb5⟩
         have r3:=zA hb5 c3
         have r4:=zA hb5 c4
         have HB5:=zh (zC HB3.out hb5)
         clear hb5
         go_wp2_with fail
         refine(KB1.out _ HB5.out).mono ?_
         rintro e w6 ⟨rfl,hb6⟩
         go_wp2_with fail
         go_ret
         exact⟨by rw [hf.out];rfl,zC HB5.out hb6⟩
        ·skip
         go_enter Tryz.func79,Tryz.ntmps79
         go_wp2_with fail
         refine(KV.out _ HBW.out).mono ?_
         rintro e w3 ⟨rfl,hb3⟩
         have c2:=zA hb3 (HC2.out 2 _ rfl)
         have c3:=zA hb3 (HC2.out 3 _ rfl)
         have c4:=zA hb3 (HC2.out 4 _ rfl)
         have g2:=zA hb3 (HG.out 2 _ rfl)
         have g3:=zA hb3 (HG.out 3 _ rfl)
         have g4:=zA hb3 (HG.out 4 _ rfl)
         simp only [World.size_alloc] at g2 g3 g4
         have HB3:=zh (zC HBW.out hb3)
         clear hb3
         go_wp2_with fail
         refine(KE.out _ HB3.out).mono ?_
         rintro e w5 ⟨rfl,hb5⟩
         have r3:=zA hb5 c3
         have r4:=zA hb5 c4
         have HB5:=zh (zC HB3.out hb5)
         clear hb5
         go_wp2_with fail
         refine(KB1.out _ HB5.out).mono ?_
         rintro e w6 ⟨rfl,hb6⟩
         have s4:=zA hb6 r4
         have HB6:=zh (zC HB5.out hb6)
         clear hb6
         go_wp2_with fail
         refine(KB2.out _ HB6.out).mono ?_
         rintro e w7 ⟨rfl,hb7⟩
         go_wp2_with fail
         go_ret
         exact⟨by rw [hf.out];rfl,zC HB6.out hb7⟩
set_option maxRecDepth 100000 in
set_option maxHeartbeats 40000000 in
theorem zKW (s:Tr.S) (x y z:Value) (w:World) (hkk:s.kind=3∨s.kind=4∨s.kind=5) (hE:SynEnv w) (hfit:s.exprs.length≤4611686018427387904) (hkb:BdS s) (hx:SlE w x s.exprs) (hy:SlS w y s.body) (hz:SlS w z s.els) (h1:HoldsS w Tr.validS s.body) (h2:HoldsS w Tr.validS s.els):
 Calls Tryz.prog 79 #[stmtV s x y z] w fun r w'=>r= .returned (.bool (Tr.validS s))∧Below w.heap.size w w':=by
 obtain⟨k,nm,l,b,els⟩:=s
 have hsz:nm.size≤maxLen:=hkb.name
 have hx':SlE w x l:=hx
 have hy':SlS w y b:=hy
 have hz':SlS w z els:=hz
 have hfit':l.length≤4611686018427387904:=hfit
 have hk1:=hkb.kind
 have hcs:k=3∨k=4∨k=5:=hkk
 clear hkk
 obtain⟨p,c,rfl,_⟩:=hx'.form
 obtain⟨py,cy,rfl,_⟩:=hy'.form
 obtain⟨pz,cz,rfl,_⟩:=hz'.form
 obtain⟨X,hX⟩:∃N,l.length=N:=⟨_,rfl⟩
 obtain⟨NB,hNB⟩:∃N,b.length=N:=⟨_,rfl⟩
 obtain⟨NE,hNE⟩:∃N,els.length=N:=⟨_,rfl⟩
 have hlb:=hy'.len
 have hle:=hz'.len
 unfold maxLen at hlb hle
 rw [hX] at hx' hfit' ⊢
 rw [hNB] at hy' hlb ⊢
 rw [hNE] at hz' hle ⊢
 obtain⟨qe,hqe⟩:∃q,Tr.validEs l=q:=⟨_,rfl⟩
 obtain⟨qb1,hq1⟩:∃q,Tr.validSs b=q:=⟨_,rfl⟩
 obtain⟨qb2,hq2⟩:∃q,Tr.validSs els=q:=⟨_,rfl⟩
 have KV:Hid (∀W,Below w.heap.size w W→Calls Tryz.prog 63 #[.string nm] W fun e w'=>e= .returned (.bool (Tr.varB nm))∧Below W.heap.size W w'):=fun W hb=>zAE nm W (hE.lex.keep hb) hsz
 have KE:Hid (∀W,Below w.heap.size w W→Calls Tryz.prog 118 #[.slice p X c,.func (.func 40) #[] #[]] W fun e w'=>e= .returned (.bool qe)∧Below W.heap.size W w'):=fun W hb=>by
  have:=zFW Tr.validE l W (holdsE (hE.lex.keep hb) l) _ (hx'.keep hb)
  rw [zCC,hqe] at this;exact this
 have KB1:Hid (∀W,Below w.heap.size w W→Calls Tryz.prog 78 #[.slice py NB cy,.func (.func 79) #[] #[]] W fun e w'=>e= .returned (.bool qb1)∧Below W.heap.size W w'):=fun W hb=>by
  have:=zBI Tr.validS b W (fun W' j x a1 a2 a3 hb'=>h1 W' j x a1 a2 a3 (zC hb hb')) _ (hy'.keep hb)
  rw [zAL,hq1] at this;exact this
 have KB2:Hid (∀W,Below w.heap.size w W→Calls Tryz.prog 78 #[.slice pz NE cz,.func (.func 79) #[] #[]] W fun e w'=>e= .returned (.bool qb2)∧Below W.heap.size W w'):=fun W hb=>by
  have:=zBI Tr.validS els W (fun W' j x a1 a2 a3 hb'=>h2 W' j x a1 a2 a3 (zC hb hb')) _ (hz'.keep hb)
  rw [zAL,hq2] at this;exact this
 have hval:Hid (Tr.validS (.mk k nm l b els)=(qe && (Tr.okS k nm X NB NE && (qb1 && qb2)))):=by rw [Tr.validS,hX,hNB,hNE,hqe,hq1,hq2];show(_ && _ && _ && _)=_;rw [Bool.and_assoc,Bool.and_assoc]
 have hno:Hid (Tr.okS k nm X NB NE=false→Tr.validS (.mk k nm l b els)=false):=fun h=>by rw [hval.out,h,Bool.false_and,Bool.and_false]
 have hyes:Hid (Tr.okS k nm X NB NE=true→Tr.validS (.mk k nm l b els)=(qe && (qb1 && qb2))):=fun h=>by rw [hval.out,h,Bool.true_and]
 unfold stmtV
 simp only [Tr.S.kind,Tr.S.name]
 have HX:=zh hx'
 have hb1:=zD w (.cells #[.int .i64 k,.string nm,.slice p X c,.slice py NB cy,.slice pz NE cz] 71)
 have HB1:=zh hb1
 have HFm:=zh (fun j u hu=>zA hb1 (hE.forms j u hu))
 have HC:=zh (fun j u h=>zP w #[.int .i64 k,.string nm,.slice p X c,.slice py NB cy,.slice pz NE cz] 71 j u h)
 clear hx hx' hy hy' hz hz' h1 h2 hkb hX hNB hNE hsz hq1 hq2 hqe hE hfit hb1
 rcases hcs with rfl|rfl|rfl
 ·skip
  have q0:=HFm.out 15 _ rfl
  have q1:=HFm.out 16 _ rfl
  have q2:=HFm.out 17 _ rfl
  have q3:=HFm.out 18 _ rfl
  have q4:=HFm.out 19 _ rfl
  have hb2:=zD (w.alloc (.cells #[.int .i64 3,.string nm,.slice p X c,.slice py NB cy,.slice pz NE cz] 71)) (.cells #[.int .i64 1,.int .i64 1,.bool false,.bool true,.bool true] 179)
  have HBW:=zh (zC HB1.out hb2)
  have g:=fun j u h=>zP (w.alloc (.cells #[.int .i64 3,.string nm,.slice p X c,.slice py NB cy,.slice pz NE cz] 71)) #[.int .i64 1,.int .i64 1,.bool false,.bool true,.bool true] 179 j u h
  have HG:=zh g
  have HC2:=zh (fun j u h=>zA hb2 (HC.out j u h))
  clear g hb2 hk1
  by_cases hlo:X<1
  ·skip
   have hf:=zh (hno.out (by rw [okS_3,decide_eq_false (fun h=>by omega)]))
   go_enter Tryz.func79,Tryz.ntmps79
   go_wp2_with fail
   go_ret
   exact⟨by rw [hf.out];rfl,HBW.out⟩
  ·have hlo':1≤X:=by omega
   clear hlo
   by_cases hhi:1<X
   ·skip
    have hf:=zh (hno.out (by rw [okS_3,decide_eq_false (fun h=>by omega)]))
    go_enter Tryz.func79,Tryz.ntmps79
    go_wp2_with fail
    go_ret
    exact⟨by rw [hf.out];rfl,HBW.out⟩
   ·have hhi':X≤1:=by omega
    clear hhi
    cases hE:nm.toList.isEmpty
    ·have hE2:=hE
     have hf:=zh (hno.out (by rw [okS_3,decide_eq_false (fun h=>zCD hE (by omega))]))
     clear hE
     go_enter Tryz.func79,Tryz.ntmps79
     go_wp2_with fail
     go_ret
     exact⟨by rw [hf.out];rfl,HBW.out⟩
    ·have hsz0:=zh (zEG hE)
     have c3:=HC2.out 3 _ rfl
     have c4:=HC2.out 4 _ rfl
     have hf:=zh (hyes.out (by rw [okS_3];exact decide_eq_true ⟨by omega,hsz0.out⟩))
     cases qe
     ·skip
      go_enter Tryz.func79,Tryz.ntmps79
      go_wp2_with fail
      refine(KE.out _ HBW.out).mono ?_
      rintro e w5 ⟨rfl,hb5⟩
      go_wp2_with fail
      go_ret
      exact⟨by rw [hf.out];rfl,zC HBW.out hb5⟩
     ·cases qb1
      ·skip
       go_enter Tryz.func79,Tryz.ntmps79
       go_wp2_with fail
       refine(KE.out _ HBW.out).mono ?_
       rintro e w5 ⟨rfl,hb5⟩
       have r3:=zA hb5 c3
       have r4:=zA hb5 c4
       have HB5:=zh (zC HBW.out hb5)
       clear hb5
       go_wp2_with fail
       refine(KB1.out _ HB5.out).mono ?_
       rintro e w6 ⟨rfl,hb6⟩
       go_wp2_with fail
       go_ret
       exact⟨by rw [hf.out];rfl,zC HB5.out hb6⟩
      ·skip
       go_enter Tryz.func79,Tryz.ntmps79
       go_wp2_with fail
       refine(KE.out _ HBW.out).mono ?_
       rintro e w5 ⟨rfl,hb5⟩
       have r3:=zA hb5 c3
       have r4:=zA hb5 c4
       have HB5:=zh (zC HBW.out hb5)
       clear hb5
       go_wp2_with fail
       refine(KB1.out _ HB5.out).mono ?_
       rintro e w6 ⟨rfl,hb6⟩
       have s4:=zA hb6 r4
       have HB6:=zh (zC HB5.out hb6)
       clear hb6
       go_wp2_with fail
       refine(KB2.out _ HB6.out).mono ?_
       rintro e w7 ⟨rfl,hb7⟩
       go_wp2_with fail
       go_ret
       exact⟨by rw [hf.out];rfl,zC HB6.out hb7⟩
 ·skip
  have q0:=HFm.out 20 _ rfl
  have q1:=HFm.out 21 _ rfl
  have q2:=HFm.out 22 _ rfl
  have q3:=HFm.out 23 _ rfl
  have q4:=HFm.out 24 _ rfl
  have hb2:=zD (w.alloc (.cells #[.int .i64 4,.string nm,.slice p X c,.slice py NB cy,.slice pz NE cz] 71)) (.cells #[.int .i64 1,.int .i64 1,.bool false,.bool true,.bool false] 179)
  have HBW:=zh (zC HB1.out hb2)
  have g:=fun j u h=>zP (w.alloc (.cells #[.int .i64 4,.string nm,.slice p X c,.slice py NB cy,.slice pz NE cz] 71)) #[.int .i64 1,.int .i64 1,.bool false,.bool true,.bool false] 179 j u h
  have HG:=zh g
  have HC2:=zh (fun j u h=>zA hb2 (HC.out j u h))
  clear g hb2 hk1
  by_cases hlo:X<1
  ·skip
   have hf:=zh (hno.out (by rw [okS_4,decide_eq_false (fun h=>by omega)]))
   go_enter Tryz.func79,Tryz.ntmps79
   go_wp2_with fail
   go_ret
   exact⟨by rw [hf.out];rfl,HBW.out⟩
  ·have hlo':1≤X:=by omega
   clear hlo
   by_cases hhi:1<X
   ·skip
    have hf:=zh (hno.out (by rw [okS_4,decide_eq_false (fun h=>by omega)]))
    go_enter Tryz.func79,Tryz.ntmps79
    go_wp2_with fail
    go_ret
    exact⟨by rw [hf.out];rfl,HBW.out⟩
   ·have hhi':X≤1:=by omega
    clear hhi
    cases hE:nm.toList.isEmpty
    ·have hE2:=hE
     have hf:=zh (hno.out (by rw [okS_4,decide_eq_false (fun h=>zCD hE (by omega))]))
     clear hE
     go_enter Tryz.func79,Tryz.ntmps79
     go_wp2_with fail
     go_ret
     exact⟨by rw [hf.out];rfl,HBW.out⟩
    ·have hsz0:=zh (zEG hE)
     have c3:=HC2.out 3 _ rfl
     have c4:=HC2.out 4 _ rfl
     by_cases hne:0<NE
     ·have hf:=zh (hno.out (by rw [okS_4,decide_eq_false (fun h=>by omega)]))
      go_enter Tryz.func79,Tryz.ntmps79
      go_wp2_with fail
      go_ret
      exact⟨by rw [hf.out];rfl,HBW.out⟩
     ·have hne':NE≤0:=by omega
      clear hne
      have hf:=zh (hyes.out (by rw [okS_4];exact decide_eq_true ⟨by omega,hsz0.out,by omega⟩))
      cases qe
      ·skip
       go_enter Tryz.func79,Tryz.ntmps79
       go_wp2_with fail
       refine(KE.out _ HBW.out).mono ?_
       rintro e w5 ⟨rfl,hb5⟩
       go_wp2_with fail
       go_ret
       exact⟨by rw [hf.out];rfl,zC HBW.out hb5⟩
      ·cases qb1
       ·skip
        go_enter Tryz.func79,Tryz.ntmps79
        go_wp2_with fail
        refine(KE.out _ HBW.out).mono ?_
        rintro e w5 ⟨rfl,hb5⟩
        have r3:=zA hb5 c3
        have r4:=zA hb5 c4
        have HB5:=zh (zC HBW.out hb5)
        clear hb5
        go_wp2_with fail
        refine(KB1.out _ HB5.out).mono ?_
        rintro e w6 ⟨rfl,hb6⟩
        go_wp2_with fail
        go_ret
        exact⟨by rw [hf.out];rfl,zC HB5.out hb6⟩
       ·skip
        go_enter Tryz.func79,Tryz.ntmps79
        go_wp2_with fail
        refine(KE.out _ HBW.out).mono ?_
        rintro e w5 ⟨rfl,hb5⟩
        have r3:=zA hb5 c3
        have r4:=zA hb5 c4
        have HB5:=zh (zC HBW.out hb5)
        clear hb5
        go_wp2_with fail
        refine(KB1.out _ HB5.out).mono ?_
        rintro e w6 ⟨rfl,hb6⟩
        have s4:=zA hb6 r4
        have HB6:=zh (zC HB5.out hb6)
        clear hb6
        go_wp2_with fail
        refine(KB2.out _ HB6.out).mono ?_
        rintro e w7 ⟨rfl,hb7⟩
        go_wp2_with fail
        go_ret
        exact⟨by rw [hf.out];rfl,zC HB6.out hb7⟩
 ·skip
  have q0:=HFm.out 25 _ rfl
  have q1:=HFm.out 26 _ rfl
  have q2:=HFm.out 27 _ rfl
  have q3:=HFm.out 28 _ rfl
  have q4:=HFm.out 29 _ rfl
  have hb2:=zD (w.alloc (.cells #[.int .i64 5,.string nm,.slice p X c,.slice py NB cy,.slice pz NE cz] 71)) (.cells #[.int .i64 1,.int .i64 4611686018427387904,.bool true,.bool false,.bool false] 179)
  have HBW:=zh (zC HB1.out hb2)
  have g:=fun j u h=>zP (w.alloc (.cells #[.int .i64 5,.string nm,.slice p X c,.slice py NB cy,.slice pz NE cz] 71)) #[.int .i64 1,.int .i64 4611686018427387904,.bool true,.bool false,.bool false] 179 j u h
  have HG:=zh g
  have HC2:=zh (fun j u h=>zA hb2 (HC.out j u h))
  clear g hb2 hk1
  by_cases hlo:X<1
  ·skip
   have hf:=zh (hno.out (by rw [okS_5,decide_eq_false (fun h=>by omega)];rfl))
   go_enter Tryz.func79,Tryz.ntmps79
   go_wp2_with fail
   go_ret
   exact⟨by rw [hf.out];rfl,HBW.out⟩
  ·have hlo':1≤X:=by omega
   clear hlo
   cases hv:Tr.varB nm
   ·rw [hv] at KV
    have hf:=zh (hno.out (by rw [okS_5,hv,Bool.and_false]))
    clear hv
    go_enter Tryz.func79,Tryz.ntmps79
    go_wp2_with fail
    refine(KV.out _ HBW.out).mono ?_
    rintro e w3 ⟨rfl,hb3⟩
    have c2:=zA hb3 (HC2.out 2 _ rfl)
    have c3:=zA hb3 (HC2.out 3 _ rfl)
    have c4:=zA hb3 (HC2.out 4 _ rfl)
    have g2:=zA hb3 (HG.out 2 _ rfl)
    have g3:=zA hb3 (HG.out 3 _ rfl)
    have g4:=zA hb3 (HG.out 4 _ rfl)
    simp only [World.size_alloc] at g2 g3 g4
    have HB3:=zh (zC HBW.out hb3)
    clear hb3
    go_wp2_with fail
    go_ret
    exact⟨by rw [hf.out];rfl,HB3.out⟩
   ·rw [hv] at KV
    have hvt:=zh hv
    clear hv
    by_cases hnb:0<NB
    ·have hf:=zh (hno.out (by rw [okS_5,decide_eq_false (fun h=>by omega)];rfl))
     go_enter Tryz.func79,Tryz.ntmps79
     go_wp2_with fail
     refine(KV.out _ HBW.out).mono ?_
     rintro e w3 ⟨rfl,hb3⟩
     have c2:=zA hb3 (HC2.out 2 _ rfl)
     have c3:=zA hb3 (HC2.out 3 _ rfl)
     have c4:=zA hb3 (HC2.out 4 _ rfl)
     have g2:=zA hb3 (HG.out 2 _ rfl)
     have g3:=zA hb3 (HG.out 3 _ rfl)
     have g4:=zA hb3 (HG.out 4 _ rfl)
     simp only [World.size_alloc] at g2 g3 g4
     have HB3:=zh (zC HBW.out hb3)
     clear hb3
     go_wp2_with fail
     go_ret
     exact⟨by rw [hf.out];rfl,HB3.out⟩
    ·have hnb':NB≤0:=by omega
     clear hnb
     by_cases hne:0<NE
     ·have hf:=zh (hno.out (by rw [okS_5,decide_eq_false (fun h=>by omega)];rfl))
      go_enter Tryz.func79,Tryz.ntmps79
      go_wp2_with fail
      refine(KV.out _ HBW.out).mono ?_
      rintro e w3 ⟨rfl,hb3⟩
      have c2:=zA hb3 (HC2.out 2 _ rfl)
      have c3:=zA hb3 (HC2.out 3 _ rfl)
      have c4:=zA hb3 (HC2.out 4 _ rfl)
      have g2:=zA hb3 (HG.out 2 _ rfl)
      have g3:=zA hb3 (HG.out 3 _ rfl)
      have g4:=zA hb3 (HG.out 4 _ rfl)
      simp only [World.size_alloc] at g2 g3 g4
      have HB3:=zh (zC HBW.out hb3)
      clear hb3
      go_wp2_with fail
      go_ret
      exact⟨by rw [hf.out];rfl,HB3.out⟩
     ·have hne':NE≤0:=by omega
      clear hne
      have hf:=zh (hyes.out (by rw [okS_5,hvt.out,Bool.and_true];exact decide_eq_true ⟨by omega,by omega,by omega⟩))
      cases qe
      ·skip
       go_enter Tryz.func79,Tryz.ntmps79
       go_wp2_with fail
       refine(KV.out _ HBW.out).mono ?_
       rintro e w3 ⟨rfl,hb3⟩
       have c2:=zA hb3 (HC2.out 2 _ rfl)
       have c3:=zA hb3 (HC2.out 3 _ rfl)
       have c4:=zA hb3 (HC2.out 4 _ rfl)
       have g2:=zA hb3 (HG.out 2 _ rfl)
       have g3:=zA hb3 (HG.out 3 _ rfl)
       have g4:=zA hb3 (HG.out 4 _ rfl)
       simp only [World.size_alloc] at g2 g3 g4
       have HB3:=zh (zC HBW.out hb3)
       clear hb3
       go_wp2_with fail
       refine(KE.out _ HB3.out).mono ?_
       rintro e w5 ⟨rfl,hb5⟩
       go_wp2_with fail
       go_ret
       exact⟨by rw [hf.out];rfl,zC HB3.out hb5⟩
      ·cases qb1
       ·skip
        go_enter Tryz.func79,Tryz.ntmps79
        go_wp2_with fail
        refine(KV.out _ HBW.out).mono ?_
        rintro e w3 ⟨rfl,hb3⟩
        have c2:=zA hb3 (HC2.out 2 _ rfl)
        have c3:=zA hb3 (HC2.out 3 _ rfl)
        have c4:=zA hb3 (HC2.out 4 _ rfl)
        have g2:=zA hb3 (HG.out 2 _ rfl)
        have g3:=zA hb3 (HG.out 3 _ rfl)
        have g4:=zA hb3 (HG.out 4 _ rfl)
        simp only [World.size_alloc] at g2 g3 g4
        have HB3:=zh (zC HBW.out hb3)
        clear hb3
        go_wp2_with fail
        refine(KE.out _ HB3.out).mono ?_
        rintro e w5 ⟨rfl,hb5⟩
        have r3:=zA hb5 c3
        have r4:=zA hb5 c4
        have HB5:=zh (zC HB3.out hb5)
        clear hb5
        go_wp2_with fail
        refine(KB1.out _ HB5.out).mono ?_
        rintro e w6 ⟨rfl,hb6⟩
        go_wp2_with fail
        go_ret
        exact⟨by rw [hf.out];rfl,zC HB5.out hb6⟩
       ·skip
        go_enter Tryz.func79,Tryz.ntmps79
        go_wp2_with fail
        refine(KV.out _ HBW.out).mono ?_
        rintro e w3 ⟨rfl,hb3⟩
        have c2:=zA hb3 (HC2.out 2 _ rfl)
        have c3:=zA hb3 (HC2.out 3 _ rfl)
        have c4:=zA hb3 (HC2.out 4 _ rfl)
        have g2:=zA hb3 (HG.out 2 _ rfl)
        have g3:=zA hb3 (HG.out 3 _ rfl)
        have g4:=zA hb3 (HG.out 4 _ rfl)
        simp only [World.size_alloc] at g2 g3 g4
        have HB3:=zh (zC HBW.out hb3)
        clear hb3
        go_wp2_with fail
        refine(KE.out _ HB3.out).mono ?_
        rintro e w5 ⟨rfl,hb5⟩
        have r3:=zA hb5 c3
        have r4:=zA hb5 c4
        have HB5:=zh (zC HB3.out hb5)
        clear hb5
        go_wp2_with fail
        refine(KB1.out _ HB5.out).mono ?_
        rintro e w6 ⟨rfl,hb6⟩
        have s4:=zA hb6 r4
        have HB6:=zh (zC HB5.out hb6)
        clear hb6
        go_wp2_with fail
        refine(KB2.out _ HB6.out).mono ?_
        rintro e w7 ⟨rfl,hb7⟩
        go_wp2_with fail
        go_ret
        exact⟨by rw [hf.out];rfl,zC HB6.out hb7⟩
end Go.Proofs.YtcnmfcgmnkncaaaGreatDoor
