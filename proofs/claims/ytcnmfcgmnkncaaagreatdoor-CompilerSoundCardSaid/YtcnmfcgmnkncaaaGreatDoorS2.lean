/-
  Several texts in one: CoSoundB, CoSoundC, CoUses, CoShapes, CkPlain.
-/
import Derived.Test.YtcnmfcgmnkncaaaGreatDoorS1
import Derived.Below
import Derived.Deep.Slices
import Derived.Deep.Fields
import Derived.ChangeSame
namespace Go.Proofs.YtcnmfcgmnkncaaaGreatDoor
namespace Co
open Tr
theorem zOW (e:E):(top e).kind=2↔e.kind=2:=by
 rcases zDZ e with h|⟨n,h⟩
 ·rw [h]
 ·cases e with
  |mk k o i nm a l=>
   by_cases hk:k=8∨k=9∨k=10
   ·constructor
    ·intro h2
     rw [h] at h2
     rcases zAZ (.mk k o i nm a l) n with h3|⟨_,h3⟩|⟨_,_,h3⟩
     ·rw [h3] at h2
      exact h2
     ·rw [h3] at h2
      exact absurd h2 (by show ¬(0:Int)=2;decide)
     ·rw [h3] at h2
      exact absurd h2 (by show ¬(8:Int)=2;decide)
    ·intro h2
     have h3:k=2:=h2
     omega
   ·have h4:top (.mk k o i nm a l)= .mk k o i nm a l:=by
     unfold top
     exact if_neg hk
    rw [h4]
theorem zN8 (e:E):(fold e).kind=2↔e.kind=2:=by
 cases e with
 |mk k o i nm a l=>
  rw [fold]
  exact zOW _
theorem zHW (l:List E):Ck.headKind (folds l)=2↔Ck.headKind l=2:=by
 cases l with
 |nil=>rw [folds]
 |cons e r=>rw [folds];exact zN8 e
theorem zHZ (cs:List C) (fs vs:List ByteArray) (n:Int) (t:Nat):Ck.faultE cs fs vs (num n) t=false:=by
 unfold num
 rw [Ck.faultE,Ck.faultEs]
 rfl
theorem zOF {cs:List C} {fs vs:List ByteArray} {e:E} {t:Nat} (h:Ck.faultE cs fs vs e t=false):Ck.faultE cs fs vs (top e) t=false:=by
 rcases zDZ e with h1|⟨n,h1⟩
 ·rw [h1];exact h
 ·rw [h1]
  rcases zAZ e n with h2|⟨_,h2⟩|⟨_,_,h2⟩
  ·rw [h2];exact h
  ·rw [h2];exact zHZ ..
  ·rw [h2,Ck.faultE,Ck.faultEs,Ck.faultEs,zHZ]
   rfl
theorem zNK (cs:List C) (fs vs:List ByteArray) (k:Int) (nm:ByteArray) (a:Bool) (l:List E) (t:Nat):Ck.ownE cs fs vs k nm a (folds l) t=Ck.ownE cs fs vs k nm a l t:=by
 unfold Ck.ownE
 rw [zAB]
 have h:decide (Ck.headKind (folds l)=2)=decide (Ck.headKind l=2):=decide_eq_decide.2 (zHW l)
 rw [h]
mutual
theorem zLP (cs:List C) (fs vs:List ByteArray) (t:Nat):∀e:E,Ck.faultE cs fs vs e t=false→Ck.faultE cs fs vs (fold e) t=false
 | .mk k o i nm a l,h=>by
   rw [Ck.faultE,Bool.or_eq_false_iff] at h
   rw [fold]
   refine zOF ?_
   rw [Ck.faultE,zNK,h.1,zCL cs fs vs t l h.2]
   rfl
theorem zCL (cs:List C) (fs vs:List ByteArray) (t:Nat):∀l:List E,Ck.faultEs cs fs vs l t=false→Ck.faultEs cs fs vs (folds l) t=false
 | [],h=>by rw [folds];exact h
 |e::r,h=>by
  rw [Ck.faultEs,Bool.or_eq_false_iff] at h
  rw [folds,Ck.faultEs,zLP cs fs vs t e h.1,zCL cs fs vs t r h.2]
  rfl
end
theorem zDV (cs:List C) (fs vs:List ByteArray) (t:Nat):∀l:List E,Ck.faultEs cs fs vs l t=false↔∀e∈l,Ck.faultE cs fs vs e t=false
 | []=>by rw [Ck.faultEs];simp
 |e::r=>by rw [Ck.faultEs,Bool.or_eq_false_iff,zDV cs fs vs t r];simp
structure Cl (cs:List C) (fs vs:List ByteArray) (l:List E):Prop where
 ok:validEs l=true
 no:∀t,t<13→Ck.faultEs cs fs vs l t=false
section
variable {cs:List C} {fs vs:List ByteArray}
theorem Cl.sub {l l':List E} (h:Cl cs fs vs l) (hs:∀e∈l',e∈l):Cl cs fs vs l':=by
 refine⟨?_,fun t ht=>(zDV cs fs vs t l').2 (fun e he=>(zDV cs fs vs t l).1 (h.no t ht) e (hs e he))⟩
 rw [zAX,List.all_eq_true]
 intro e he
 have:=h.ok
 rw [zAX,List.all_eq_true] at this
 exact this e (hs e he)
theorem Cl.fold {l:List E} (h:Cl cs fs vs l):Cl cs fs vs (folds l):=⟨zAA l h.ok,fun t ht=>zCL cs fs vs t l (h.no t ht)⟩
theorem Cl.cons {e:E} {l:List E} (h:Cl cs fs vs (e::l)):(validE e=true∧∀t,t<13→Ck.faultE cs fs vs e t=false)∧Cl cs fs vs l:=by
 have h1:=h.ok
 rw [validEs,Bool.and_eq_true] at h1
 have h2:∀t,t<13→Ck.faultE cs fs vs e t=false∧Ck.faultEs cs fs vs l t=false:=fun t ht=>by
  have:=h.no t ht
  rw [Ck.faultEs,Bool.or_eq_false_iff] at this
  exact this
 exact⟨⟨h1.1,fun t ht=>(h2 t ht).1⟩,h1.2,fun t ht=>(h2 t ht).2⟩
def Sc (vs:List ByteArray) (g:G):Prop:=∀s,Ck.hasS vs s=true→∃v∈g.vars,v.1=s
theorem Sc.same {g h:G} (s:Sc vs g) (e:h.vars=g.vars):Sc vs h:=fun x hx=>by rw [e];exact s x hx
theorem zMG {g:G} {s:ByteArray} (h:∃v∈g.vars,v.1=s):∃v∈g.vars,zA0 g s=(v.2:Int):=by
 obtain⟨v,hv,e⟩:=h
 unfold zA0
 cases hf:g.vars.reverse.find? fun x=>decide (x.1=s) with
 |none=>
  rw [List.find?_eq_none] at hf
  exact absurd (decide_eq_true e) (hf v (List.mem_reverse.2 hv))
 |some x=>exact ⟨x,List.mem_reverse.1 (List.mem_of_find?_eq_some hf),rfl⟩
theorem zS5 {l:List ByteArray} {s:ByteArray} (h:Ck.hasS l s=true):∃n:Nat,idx l s=(n:Int)∧n<l.length:=by
 unfold idx
 unfold Ck.hasS at h
 cases hf:l.findIdx? fun x=>decide (x=s) with
 |none=>
  rw [List.findIdx?_eq_none_iff] at hf
  obtain⟨x,hx,h2⟩:=List.any_eq_true.1 h
  rw [hf x hx] at h2
  cases h2
 |some i=>exact ⟨i,rfl,(List.findIdx?_eq_some_iff_getElem.1 hf).1⟩
theorem zSK {nm:ByteArray} {i:Nat} (h:Ck.classAt cs nm=some i):∃c,cs[i]? =some c:=by
 unfold Ck.classAt at h
 have:=(List.findIdx?_eq_some_iff_getElem.1 h).1
 exact⟨cs[i],List.getElem?_eq_getElem this⟩
theorem zTX {k o i:Int} {nm:ByteArray} {a:Bool} {n:Nat} (h:okE k o i nm a n=true):(k=4∨k=6∨k=7∨k=8∨k=9→n=1)∧(k=10→n=2∧0≤o∧o≤12)∧(k=5→a=true→0<n)∧0≤k∧k≤10:=by
 unfold okE at h
 rw [Bool.and_eq_true] at h
 have h2:=h.2
 clear h
 repeat' split at h2
 all_goals simp only [Bool.and_eq_true,Bool.or_eq_true,Bool.not_eq_true',decide_eq_true_eq,Bool.false_eq_true] at h2
 all_goals (refine⟨fun hk=>?_,fun hk=>?_,fun hk ha=>?_,?_,?_⟩)
 all_goals first
  |omega
  |(exfalso;omega)
  |(rcases h2.2 with h3|h3
    ·rw [ha] at h3;cases h3
    ·exact h3)
  |skip
set_option maxHeartbeats 4000000 in
mutual
theorem gE_sd (cs:List C) (fs vs:List ByteArray) (p:Nat→Prop):∀(g:G) (e:E) (D:List Int),Sd cs fs p g D→validE e=true→(∀t,t<13→Ck.faultE cs fs vs e t=false)→Sc vs g→Nx cs fs p g (gE cs fs g e) D 1
 |g,.mk k o i nm a l,D,s,hv,hf,sc=>by
  have hv2:=hv
  have hvl:=(zF hv).1
  have hok:=zTX (zF hv).2
  have hf2:∀t,t<13→Ck.ownE cs fs vs k nm a l t=false∧Ck.faultEs cs fs vs l t=false:=fun t ht=>by
   have:=hf t ht
   rw [Ck.faultE,Bool.or_eq_false_iff] at this
   exact this
  have cl:Cl cs fs vs l:=⟨hvl,fun t ht=>(hf2 t ht).2⟩
  have hs:=zMQ cs fs vs p g l D s cl sc
  have hL:=fun (j v:Int) (hl:l.length=2) (hj:j=19∨j=20) (hv:v=0∨v=1)=>gL_sd cs fs vs p g j v l D s cl sc hl hj hv
  have hn:=s.nn
  clear hf
  rw [gE]
  cases hc:const (.mk k o i nm a l) with
  |some n=>
   have:=zBP hv2 hc
   exact(s.nx.em (by rfl) (by rfl) (by decide) (by omega) (.push n (by omega) (by omega))).cast rfl
  |none=>
   dsimp only
   by_cases h1:k=1
   ·rw [if_pos h1]
    exact(s.nx.em (by rfl) (by rfl) (by decide) (by omega) (.flat 1 (by omega))).cast rfl
   rw [if_neg h1]
   by_cases h2:k=2
   ·rw [if_pos h2]
    exact(s.nx.em (by rfl) (by rfl) (by decide) (by omega) (.flat 2 (by omega))).cast rfl
   rw [if_neg h2]
   by_cases h3:k=3
   ·rw [if_pos h3]
    have h9:=(hf2 7 (by decide)).1
    unfold Ck.ownE at h9
    rw [if_pos h3] at h9
    obtain⟨v,hv,e⟩:=zMG (sc nm (by simpa using h9))
    rw [e]
    exact(s.nx.em (by rfl) (by rfl) (by decide) (by omega) (.loc 3 v.2 (by omega) (s.nums v hv))).cast rfl
   rw [if_neg h3]
   by_cases h4:k=4
   ·rw [if_pos h4]
    have hl:=hok.1 (by omega)
    by_cases h5:Ck.headKind l=2
    ·rw [if_pos h5]
     have h9:=(hf2 10 (by decide)).1
     unfold Ck.ownE at h9
     rw [if_neg h3,if_pos h4,decide_eq_true h5] at h9
     obtain⟨n,e,hlt⟩:=zS5 (l:=fs) (s:=nm) (by simpa using h9)
     rw [e]
     exact(s.nx.em (by rfl) (by rfl) (by decide) (by omega) (.own 7 n (by omega) hlt)).cast rfl
    ·rw [if_neg h5]
     have hs2:Nx cs fs p g (name (gEs cs fs g l) nm).1 D l.length:=by
      obtain⟨D',s',hk⟩:=hs
      exact⟨D',(s'.name nm).1,by rw [(s'.name nm).2.2.1];exact hk⟩
     obtain⟨D',s',hk⟩:=hs
     exact(hs2.em (by rfl) (by rfl) (by decide) (by omega) (.nam 6 _ (by omega) (s'.name nm).2.1)).cast (by omega)
   rw [if_neg h4]
   by_cases h5:k=5
   ·rw [if_pos h5]
    have h8:=(hf2 8 (by decide)).1
    have h9:=(hf2 9 (by decide)).1
    unfold Ck.ownE at h8 h9
    rw [if_neg h3,if_neg h4,if_pos h5] at h8 h9
    cases hcl:Ck.classAt cs nm with
    |none=>rw [hcl] at h8;simp at h8
    |some ci=>
     rw [hcl] at h9
     obtain⟨c,hcc⟩:=zSK hcl
     dsimp only at h9
     rw [hcc] at h9
     have h10:¬((c.fields.length:Int)<(l.length:Int) - (if a then 1 else 0)):=by simpa using h9
     by_cases ha:a=true
     ·rw [if_pos ha]
      rw [if_pos ha] at h10
      have hp:=hok.2.2.1 h5 ha
      exact(hs.em (show pops 11 ((l.length:Int) - 1)=(l.length:Int) from by unfold pops;rw [if_neg (by decide),if_neg (by decide),if_neg (by decide),if_pos (by decide)];omega) (by rfl) (by decide) (by omega) (.new 11 ci c _ (by omega) hcc (by omega) (by omega))).cast (by omega)
     ·rw [if_neg ha]
      rw [if_neg ha] at h10
      exact(hs.em (show pops 10 (l.length:Int)=(l.length:Int) from by unfold pops;rw [if_neg (by decide),if_neg (by decide),if_pos (by decide)]) (by rfl) (by decide) (by omega) (.new 10 ci c _ (by omega) hcc (by omega) (by omega))).cast (by omega)
   rw [if_neg h5]
   by_cases h6:k=6
   ·rw [if_pos h6]
    have hl:=hok.1 (by omega)
    exact(hs.em (by rfl) (by rfl) (by decide) (by omega) (.flat 12 (by omega))).cast (by omega)
   rw [if_neg h6]
   by_cases h7:k=7
   ·rw [if_pos h7]
    have hl:=hok.1 (by omega)
    exact(hs.em (by rfl) (by rfl) (by decide) (by omega) (.flat 13 (by omega))).cast (by omega)
   rw [if_neg h7]
   by_cases h8:k=8
   ·rw [if_pos h8]
    have hl:=hok.1 (by omega)
    exact(hs.em (by rfl) (by rfl) (by decide) (by omega) (.flat 14 (by omega))).cast (by omega)
   rw [if_neg h8]
   by_cases h9:k=9
   ·rw [if_pos h9]
    have hl:=hok.1 (by omega)
    exact(hs.em (by rfl) (by rfl) (by decide) (by omega) (.flat 15 (by omega))).cast (by omega)
   rw [if_neg h9]
   have hk:k=10:=by
    rcases Int.lt_or_lt_of_ne (show k≠0 from fun h0=>by unfold const at hc;dsimp only at hc;rw [if_pos h0] at hc;cases hc) with hq|hq<;>omega
   have h12:=hok.2.1 hk
   by_cases h11:o=11
   ·rw [if_pos h11]
    exact hL 19 0 h12.1 (.inl rfl) (.inl rfl)
   rw [if_neg h11]
   by_cases h13:o=12
   ·rw [if_pos h13]
    exact hL 20 1 h12.1 (.inr rfl) (.inr rfl)
   rw [if_neg h13]
   exact(hs.em (by rfl) (by rfl) (by decide) (by omega) (.bin o (by omega) (by omega))).cast (by omega)
theorem zMQ (cs:List C) (fs vs:List ByteArray) (p:Nat→Prop):∀(g:G) (l:List E) (D:List Int),Sd cs fs p g D→Cl cs fs vs l→Sc vs g→Nx cs fs p g (gEs cs fs g l) D l.length
 |g,[],D,s,h,sc=>by rw [gEs];exact s.nx
 |g,e::r,D,s,h,sc=>by
  obtain⟨⟨hv,hf⟩,h2⟩:=h.cons
  have h1:=gE_sd cs fs vs p g e D s hv hf sc
  rw [gEs]
  exact(h1.trans (fun D' s'=>zMQ cs fs vs p (gE cs fs g e) r D' s' h2 (sc.same (zDT cs fs g e)))).cast (by rw [List.length_cons];omega)
theorem gL_sd (cs:List C) (fs vs:List ByteArray) (p:Nat→Prop):∀(g:G) (j v:Int) (l:List E) (D:List Int),Sd cs fs p g D→Cl cs fs vs l→Sc vs g→l.length=2→(j=19∨j=20)→(v=0∨v=1)→Nx cs fs p g (gL cs fs g j v l) D 1
 |g,j,v,[],D,s,h,sc,hl,hj,hv=>by cases hl
 |g,j,v,x::r,D,s,h,sc,hl,hj,hv=>by
  obtain⟨⟨hvx,hfx⟩,h2⟩:=h.cons
  have hr:r.length=1:=by rw [List.length_cons] at hl;omega
  obtain⟨D1,s1,k1⟩:=gE_sd cs fs vs p g x D s hvx hfx sc
  have hn:=s.nn
  have sc1:Sc vs (gE cs fs g x):=sc.same (zDT cs fs g x)
  have hP:pops j 0=1:=by rcases hj with rfl|rfl<;>rfl
  have hQ:pushes j=0:=by rcases hj with rfl|rfl<;>rfl
  have hJ:Jp j:=by rcases hj with rfl|rfl<;>decide
  have hks:=zEJ cs fs (emit (gE cs fs g x) j 0 0 1 0) r
  have s2:Sd cs fs (fun i=>p i∨i=(gE cs fs g x).code.length) (emit (gE cs fs g x) j 0 0 1 0) (D++D1++ [(gE cs fs g x).depth -1+0]):=s1.jp hP hQ hJ (by omega) (fun i hi=> .inl hi) (.inr rfl)
  have hat:=zAQ (gE cs fs g x) j 0 0 1 0
  have sc2:Sc vs (emit (gE cs fs g x) j 0 0 1 0):=sc1.same rfl
  rw [gL]
  have hDa:(D++D1)[(gE cs fs g x).code.length]? =some (gE cs fs g x).depth:=s1.top
  generalize hg1:gE cs fs g x=g1 at*
  obtain⟨D3,s3,k3⟩:=zMQ cs fs vs _ (emit g1 j 0 0 1 0) r _ s2 h2 sc2
  have hat3:=hks _ _ hat
  generalize hg3:gEs cs fs (emit g1 j 0 0 1 0) r=g3 at*
  have k3':g3.depth=g1.depth -1+0+r.length:=k3
  have s4:=s3.em (o:=17) (a:=0) (b:=0) (P:=1) (Q:=1) rfl rfl (by decide) (by omega) (.flat 17 (by omega))
  have hat4:=Kp.emit g3 17 0 0 1 1 _ _ hat3
  have hd4:(emit g3 17 0 0 1 1).depth=g3.depth -1+1:=rfl
  have hl4:(emit g3 17 0 0 1 1).code.length=g3.code.length+1:=zO ..
  generalize hg4:emit g3 17 0 0 1 1=g4 at*
  have s5:=s4.jd (p':=fun i=>p i∨i=g1.code.length∨i=g4.code.length) (by omega) (fun i hi=>hi.elim .inl (fun e=> .inr (.inl e))) (.inr (.inr rfl))
  have hat5:=Kp.emit g4 18 0 0 0 0 _ _ hat4
  have hat5':=zAQ g4 18 0 0 0 0
  have hD4:(D++D1++ [g1.depth -1+0]++D3++ [g3.depth -1+1]++ [g4.depth -1])[g4.code.length]? =some g4.depth:=zAI s4.top
  have hD1:(D++D1++ [g1.depth -1+0]++D3++ [g3.depth -1+1]++ [g4.depth -1])[g1.code.length]? =some g1.depth:=zAI (zAI (zAI (zAI hDa)))
  have hd5:(emit g4 18 0 0 0 0).depth=g4.depth -0+0:=rfl
  have hlt:g1.code.length≠g4.code.length:=by
   have:=zGX hat3
   omega
  generalize hg5:emit g4 18 0 0 0 0=g5 at*
  have s6:=s5.patch (i:=g1.code.length) (o:=j) (a:=0) (d:=g1.depth) (p':=fun i=>p i∨i=g4.code.length) hat5 hD1 hJ (by show g5.depth -1=_;omega) (fun q hq=>by rcases hq with hq|hq|hq;exact .inr (.inl hq);exact .inl hq;exact .inr (.inr hq))
  have hat6:(patch { g5 with depth:=g5.depth -1 } g1.code.length).code[g4.code.length]? =some (18,0,0):=by rw [zCZ _ _ _ hlt];exact hat5'
  have hd6:(patch { g5 with depth:=g5.depth -1 } g1.code.length).depth=g5.depth -1:=rfl
  generalize hg6:patch { g5 with depth:=g5.depth -1 } g1.code.length=g6 at*
  have s7:=s6.em (o:=0) (a:=v) (b:=0) (P:=0) (Q:=1) rfl rfl (by decide) (by omega) (.push v (by omega) (by omega))
  have hat7:=Kp.emit g6 0 v 0 0 1 _ _ hat6
  have hd7:(emit g6 0 v 0 0 1).depth=g6.depth -0+1:=rfl
  generalize hg7:emit g6 0 v 0 0 1=g7 at*
  have s8:=s7.patch (i:=g4.code.length) (o:=18) (a:=0) (d:=g4.depth) (p':=p) hat7 (zAI hD4) (.inl rfl) (by show g7.depth=g4.depth -0;omega) (fun q hq=>hq.elim .inr .inl)
  refine⟨D1++ [g1.depth -1+0]++D3++ [g3.depth -1+1]++ [g4.depth -1]++ [g6.depth -0+1],?_,?_⟩
  ·simp only [List.append_assoc] at s8 ⊢
   exact s8
  ·show g7.depth=_
   omega
end
end
end Co
end Go.Proofs.YtcnmfcgmnkncaaaGreatDoor
namespace Go.Proofs.YtcnmfcgmnkncaaaGreatDoor
namespace Co
open Tr
set_option maxHeartbeats 4000000 in
mutual
theorem zT1 (cs:List C) (fs:List ByteArray):∀(g:G) (s:S),Kp g (gS cs fs g s)
 |g,.mk k nm x b l=>by
  have he:∀y:List E,Kp g (gEs cs fs g y):=fun y=>zEJ cs fs g y
  have hb:∀h:G,Kp h (gSs cs fs h b):=fun h=>zDD cs fs h b
  have hl:∀h:G,Kp h (gSs cs fs h l):=fun h=>zDD cs fs h l
  rw [gS]
  dsimp only
  by_cases h0:k=0
  ·rw [if_pos h0]
   exact(he ((folds x).take 1)).trans (Kp.emit _ 4 (g.locals:Int) 0 1 0)
  rw [if_neg h0]
  by_cases h1:k=1
  ·rw [if_pos h1]
   exact(he _).trans (Kp.emit _ _ _ _ _ _)
  rw [if_neg h1]
  by_cases h2:k=2
  ·rw [if_pos h2]
   split
   ·exact(he _).trans (Kp.emit _ _ _ _ _ _)
   ·exact(he _).trans ((Kp.name _ _).trans (Kp.emit _ _ _ _ _ _))
  rw [if_neg h2]
  by_cases h3:k=3
  ·rw [if_pos h3]
   have a1:=he ((folds x).take 1)
   generalize gEs cs fs g ((folds x).take 1)=g1 at a1 ⊢
   have a2:Kp g (shut (emit g1 19 0 0 1 0) (gSs cs fs (emit g1 19 0 0 1 0) b)):=a1.trans ((Kp.emit g1 19 0 0 1 0).trans (hb _))
   generalize shut (emit g1 19 0 0 1 0) (gSs cs fs (emit g1 19 0 0 1 0) b)=g2 at a2 ⊢
   split
   ·exact a2.patch a1.len
   ·have a3:Kp g (shut g2 (gSs cs fs (patch (emit g2 18 0 0 0 0) g1.code.length) l)):=((a2.trans (Kp.emit g2 18 0 0 0 0)).patch a1.len).trans (hl _)
    exact a3.patch a2.len
  rw [if_neg h3]
  by_cases h4:k=4
  ·rw [if_pos h4]
   have a1:=he ((folds x).take 1)
   generalize gEs cs fs g ((folds x).take 1)=g1 at a1 ⊢
   have a2:Kp g (shut (emit g1 19 0 0 1 0) (gSs cs fs (emit g1 19 0 0 1 0) b)):=a1.trans ((Kp.emit g1 19 0 0 1 0).trans (hb _))
   generalize shut (emit g1 19 0 0 1 0) (gSs cs fs (emit g1 19 0 0 1 0) b)=g2 at a2 ⊢
   exact(a2.trans (Kp.emit _ _ _ _ _ _)).patch a1.len
  rw [if_neg h4]
  by_cases h5:k=5
  ·rw [if_pos h5]
   have a3:=(he (folds x)).trans (Kp.name _ nm)
   exact fun i y hy=>(Kp.emit _ 21 _ _ _ _) i y (a3 i y hy)
  rw [if_neg h5]
  repeat' split
  all_goals first
   |exact (he _).trans (Kp.emit _ _ _ _ _ _)
   |exact (he _).trans ((Kp.name _ _).trans (Kp.emit _ _ _ _ _ _))
   |exact Kp.emit _ _ _ _ _ _
theorem zDD (cs:List C) (fs:List ByteArray):∀(g:G) (l:List S),Kp g (gSs cs fs g l)
 |g,[]=>by rw [gSs];exact .refl g
 |g,s::r=>by rw [gSs];exact(zT1 cs fs g s).trans (zDD cs fs _ r)
end
theorem zTW {k:Int} {nm:ByteArray} {n nb ne:Nat} (h:okS k nm n nb ne=true):(k=0∨k=1∨k=3∨k=4∨k=6→n=1)∧(k=2∨k=7∨k=8→n=2)∧(k=5→1≤n)∧0≤k∧k≤9:=by
 unfold okS at h
 repeat' split at h
 all_goals simp only [Bool.and_eq_true,decide_eq_true_eq,Bool.false_eq_true] at h
 all_goals omega
theorem Sc.addv {vs:List ByteArray} {g h:G} (s:Sc vs g) {nm:ByteArray} {n:Nat} (e:h.vars=g.vars++ [(nm,n)]):Sc (Ck.addVar 0 nm vs) h:=fun x hx=>by
 unfold Ck.addVar at hx
 rw [if_pos rfl] at hx
 unfold Ck.hasS at hx
 rw [List.any_append,Bool.or_eq_true] at hx
 rw [e]
 rcases hx with hx|hx
 ·obtain⟨v,hv,h2⟩:=s x hx
  exact⟨v,List.mem_append.2 (.inl hv),h2⟩
 ·refine⟨(nm,n),List.mem_append.2 (.inr (List.mem_singleton.2 rfl)),?_⟩
  simpa using hx
theorem take_one {α:Type} {l:List α} (h:l.length=1):l.take 1=l:=List.take_of_length_le (by omega)
section
variable {cs:List C} {fs vs:List ByteArray} {p:Nat→Prop}
def Ns (cs:List C) (fs:List ByteArray) (p:Nat→Prop) (g h:G) (D:List Int) (vs:List ByteArray):Prop:=Nx cs fs p g h D 0∧Sc vs h
theorem Ns.of {g h:G} {D:List Int} (n:Nx cs fs p g h D 0) (s:Sc vs g) (e:h.vars=g.vars):Ns cs fs p g h D vs:=⟨n,s.same e⟩
theorem name_vars (g:G) (nm:ByteArray):(name g nm).1.vars=g.vars:=by unfold name;split<;>rfl
theorem Nx.name {g h:G} {D:List Int} {k:Int} (n:Nx cs fs p g h D k) (nm:ByteArray):Nx cs fs p g (name h nm).1 D k∧(Co.name h nm).2<(Co.name h nm).1.names.length:=by
 obtain⟨D',s,hk⟩:=n
 exact⟨⟨D',(s.name nm).1,by rw [(s.name nm).2.2.1];exact hk⟩,(s.name nm).2.1⟩
set_option maxHeartbeats 8000000 in
mutual
theorem gS_sd (cs:List C) (c:C):∀(p:Nat→Prop) (g:G) (s:S) (D:List Int) (vs:List ByteArray),Sd cs c.fields p g D→validS s=true→(∀t,t<13→Ck.faultS cs c s vs t=false)→Sc vs g→Ns cs c.fields p g (gS cs c.fields g s) D (Ck.addVar s.kind s.name vs)
 |p,g,.mk k nm x b l,D,vs,s,hv,hf,sc=>by
  rw [validS,Bool.and_eq_true,Bool.and_eq_true,Bool.and_eq_true] at hv
  have hok:=zTW hv.1.1.2
  have hf2:∀t,t<13→((Ck.faultEs cs c.fields vs x t=false∧Ck.ownS c vs k nm x t=false)∧Ck.faultSs cs c b (Ck.addVar k nm vs) t=false)∧Ck.faultSs cs c l (Ck.addVar k nm vs) t=false:=fun t ht=>by
   have:=hf t ht
   rw [Ck.faultS,Bool.or_eq_false_iff,Bool.or_eq_false_iff,Bool.or_eq_false_iff] at this
   exact this
  have cx:Cl cs c.fields vs x:=⟨hv.1.1.1,fun t ht=>(hf2 t ht).1.1.1⟩
  have ce:=cx.fold
  have hle:(folds x).length=x.length:=zAB x
  have hs:∀y:List E,(∀e∈y,e∈folds x)→Nx cs c.fields p g (gEs cs c.fields g y) D y.length:=fun y hy=>zMQ cs c.fields vs p g y D s (ce.sub hy) sc
  have hvr:∀y:List E,(gEs cs c.fields g y).vars=g.vars:=fun y=>gEs_vars cs c.fields g y
  have hn:=s.nn
  have hkd:Ck.addVar (S.mk k nm x b l).kind (S.mk k nm x b l).name vs=Ck.addVar k nm vs:=rfl
  rw [hkd,gS]
  have hav:k≠0→Ck.addVar k nm vs=vs:=fun h0=>if_neg h0
  by_cases h0:k=0
  ·rw [if_pos h0]
   subst h0
   have h1:=hs ((folds x).take 1) (fun e he=>List.mem_of_mem_take he)
   rw [take_one (by rw [hle];exact hok.1 (by omega))] at h1
   rw [take_one (by rw [hle];exact hok.1 (by omega))]
   have hl:=hok.1 (by omega)
   dsimp only
   have hlo:(gEs cs c.fields g (folds x)).locals=g.locals:=zA5 ..
   obtain⟨D',s1,k1⟩:=h1
   have s2:=(s1.decl nm).em (o:=4) (a:=(g.locals:Int)) (b:=0) (P:=1) (Q:=0) rfl rfl (by decide) (by show 1≤(gEs cs c.fields g (folds x)).depth;omega) (.loc 4 g.locals (by omega) (by show g.locals<(gEs cs c.fields g (folds x)).locals+1;omega))
   refine⟨⟨D'++ [(gEs cs c.fields g (folds x)).depth -1+0],?_,?_⟩,Sc.addv (g:=g) sc (n:=g.locals) ?_⟩
   ·rw [←List.append_assoc]
    exact s2
   ·show(gEs cs c.fields g (folds x)).depth -1+0=_
    omega
   ·show(gEs cs c.fields g (folds x)).vars++ [(nm,(gEs cs c.fields g (folds x)).locals)]=_
    rw [hvr,hlo]
  rw [if_neg h0,hav h0]
  have hbf:∀t,t<13→Ck.faultSs cs c b vs t=false:=fun t ht=>by have:=(hf2 t ht).1.2;rw [hav h0] at this;exact this
  have hlf:∀t,t<13→Ck.faultSs cs c l vs t=false:=fun t ht=>by have:=(hf2 t ht).2;rw [hav h0] at this;exact this
  by_cases h1:k=1
  ·rw [if_pos h1]
   have hl:=hok.1 (by omega)
   rw [take_one (by omega)]
   have h9:=(hf2 7 (by decide)).1.1.2
   unfold Ck.ownS at h9
   rw [if_neg h0,if_pos h1] at h9
   have hq:=hs (folds x) (fun _ he=>he)
   obtain⟨v,hv,e⟩:=zMG ((sc.same (hvr (folds x))) nm (by simpa using h9))
   rw [e]
   obtain⟨D',s1,k1⟩:=hq
   exact Ns.of ((Nx.em ⟨D',s1,k1⟩ (by rfl) (by rfl) (by decide) (by omega) (.loc 4 v.2 (by omega) (s1.nums v hv))).cast (by omega)) sc (hvr _)
  rw [if_neg h1]
  by_cases h2:k=2
  ·rw [if_pos h2]
   have hl:=hok.2.1 (by omega)
   by_cases h5:Ck.headKind (folds x)=2
   ·rw [if_pos h5]
    have h9:=(hf2 10 (by decide)).1.1.2
    unfold Ck.ownS at h9
    rw [if_neg h0,if_neg h1,if_pos h2,decide_eq_true ((zHW x).1 h5)] at h9
    obtain⟨n,e,hlt⟩:=zS5 (l:=c.fields) (s:=nm) (by simpa using h9)
    rw [e]
    have hq:=hs ((folds x).drop 1) (fun _ he=>List.mem_of_mem_drop he)
    have hl2:((folds x).drop 1).length=1:=by rw [List.length_drop];omega
    exact Ns.of ((hq.em (by rfl) (by rfl) (by decide) (by omega) (.own 9 n (by omega) hlt)).cast (by omega)) sc (hvr _)
   ·rw [if_neg h5]
    have hq:=(hs (folds x) (fun _ he=>he)).name nm
    exact Ns.of ((hq.1.em (by rfl) (by rfl) (by decide) (by omega) (.nam 8 _ (by omega) hq.2)).cast (by omega)) sc ((name_vars _ _).trans (hvr _))
  rw [if_neg h2]
  by_cases h3:k=3
  ·rw [if_pos h3]
   have hl:=hok.1 (by omega)
   rw [take_one (by omega)]
   dsimp only
   obtain⟨D1,s1,k1⟩:=hs (folds x) (fun _ he=>he)
   have v1:=hvr (folds x)
   have lo1:(gEs cs c.fields g (folds x)).locals=g.locals:=zA5 ..
   generalize hg1:gEs cs c.fields g (folds x)=g1 at*
   have s2:=s1.jp (o:=19) (P:=1) (p':=fun i=>p i∨i=g1.code.length) rfl rfl (by decide) (by omega) (fun i hi=> .inl hi) (.inr rfl)
   have hat2:=zAQ g1 19 0 0 1 0
   have hD1:(D++D1++ [g1.depth -1+0])[g1.code.length]? =some g1.depth:=zAI s1.top
   have hd2:(emit g1 19 0 0 1 0).depth=g1.depth -1+0:=rfl
   have v2:(emit g1 19 0 0 1 0).vars=g.vars:=v1
   have lo2:(emit g1 19 0 0 1 0).locals=g.locals:=lo1
   generalize hg2:emit g1 19 0 0 1 0=g2 at*
   have hb:=zJ4 cs c _ g2 b _ vs s2 hv.1.2 hbf (sc.same v2)
   have hkb:=zDD cs c.fields g2 b
   have lob:(gSs cs c.fields g2 b).locals=g2.locals+Ck.lets b:=zA1 cs c.fields g2 b hv.1.2
   obtain⟨⟨D3,s3,k3⟩,_⟩:=hb
   have s3':Sd cs c.fields _ (shut g2 (gSs cs c.fields g2 b)) _:=s3.shut (g:=g2) (fun v hv=>by rw [v2] at hv;rw [lo2];exact s.nums v hv) (by omega)
   have hat3:(shut g2 (gSs cs c.fields g2 b)).code[g1.code.length]? =some (19,0,0):=hkb _ _ hat2
   have hd3:(shut g2 (gSs cs c.fields g2 b)).depth=g2.depth+0:=k3
   have v3:(shut g2 (gSs cs c.fields g2 b)).vars=g.vars:=v2
   have lo3:(shut g2 (gSs cs c.fields g2 b)).locals=g.locals+Ck.lets b:=by rw [←lo2];exact lob
   generalize hg3:shut g2 (gSs cs c.fields g2 b)=g3 at*
   have hD3:(D++D1++ [g1.depth -1+0]++D3)[g1.code.length]? =some g1.depth:=zAI hD1
   split
   ·have s4:=s3'.patch (i:=g1.code.length) (o:=19) (a:=0) (d:=g1.depth) (p':=p) hat3 hD3 (by decide) (by show g3.depth=g1.depth -1;omega) (fun q hq=>hq.elim .inr .inl)
    exact Ns.of ⟨D1++ [g1.depth -1+0]++D3,by simp only [List.append_assoc] at s4 ⊢;exact s4,by show g3.depth=_;omega⟩ sc v3
   ·have s4:=s3'.jp (o:=18) (P:=0) (p':=fun i=>p i∨i=g1.code.length∨i=g3.code.length) rfl rfl (by decide) (by omega) (fun i hi=>hi.elim .inl (fun e=> .inr (.inl e))) (.inr (.inr rfl))
    have hat4:=Kp.emit g3 18 0 0 0 0 _ _ hat3
    have hat4':=zAQ g3 18 0 0 0 0
    have hlt:g1.code.length≠g3.code.length:=by
     have:=zGX hat3
     omega
    have hd4:(emit g3 18 0 0 0 0).depth=g3.depth -0+0:=rfl
    have v4:(emit g3 18 0 0 0 0).vars=g.vars:=v3
    have lo4:(emit g3 18 0 0 0 0).locals=g.locals+Ck.lets b:=lo3
    generalize hg4:emit g3 18 0 0 0 0=g4 at*
    have s5:=s4.patch (i:=g1.code.length) (o:=19) (a:=0) (d:=g1.depth) (p':=fun i=>p i∨i=g3.code.length) hat4 (zAI hD3) (by decide) (by show g4.depth=g1.depth -1;omega) (fun q hq=>by rcases hq with hq|hq|hq;exact .inr (.inl hq);exact .inl hq;exact .inr (.inr hq))
    have hat5:(patch g4 g1.code.length).code[g3.code.length]? =some (18,0,0):=by rw [zCZ _ _ _ hlt];exact hat4'
    have hd5:(patch g4 g1.code.length).depth=g4.depth:=rfl
    have v5:(patch g4 g1.code.length).vars=g.vars:=v4
    have lo5:(patch g4 g1.code.length).locals=g.locals+Ck.lets b:=lo4
    have hDi:(D++D1++ [g1.depth -1+0]++D3++ [g3.depth -0+0])[g3.code.length]? =some g3.depth:=zAI s3'.top
    generalize hg5:patch g4 g1.code.length=g5 at*
    have hb2:=zJ4 cs c _ g5 l _ vs s5 hv.2 hlf (sc.same v5)
    have hkb2:=zDD cs c.fields g5 l
    have lob2:(gSs cs c.fields g5 l).locals=g5.locals+Ck.lets l:=zA1 cs c.fields g5 l hv.2
    obtain⟨⟨D6,s6,k6⟩,_⟩:=hb2
    have s6':Sd cs c.fields _ (shut g3 (gSs cs c.fields g5 l)) _:=s6.shut (g:=g3) (fun v hv=>by rw [v3] at hv;have:=s.nums v hv;omega) (by omega)
    have hat6:(shut g3 (gSs cs c.fields g5 l)).code[g3.code.length]? =some (18,0,0):=hkb2 _ _ hat5
    have hd6:(shut g3 (gSs cs c.fields g5 l)).depth=g5.depth+0:=k6
    have v6:(shut g3 (gSs cs c.fields g5 l)).vars=g.vars:=v3
    generalize hg6:shut g3 (gSs cs c.fields g5 l)=g6 at*
    have s7:=s6'.patch (i:=g3.code.length) (o:=18) (a:=0) (d:=g3.depth) (p':=p) hat6 (zAI hDi) (by decide) (by show g6.depth=g3.depth -0;omega) (fun q hq=>hq.elim .inr .inl)
    exact Ns.of ⟨D1++ [g1.depth -1+0]++D3++ [g3.depth -0+0]++D6,by simp only [List.append_assoc] at s7 ⊢;exact s7,by show g6.depth=_;omega⟩ sc v6
  rw [if_neg h3]
  by_cases h4:k=4
  ·rw [if_pos h4]
   have hl:=hok.1 (by omega)
   rw [take_one (by omega)]
   dsimp only
   obtain⟨D1,s1,k1⟩:=hs (folds x) (fun _ he=>he)
   have v1:=hvr (folds x)
   have lo1:(gEs cs c.fields g (folds x)).locals=g.locals:=zA5 ..
   generalize hg1:gEs cs c.fields g (folds x)=g1 at*
   have s2:=s1.jp (o:=19) (P:=1) (p':=fun i=>p i∨i=g1.code.length) rfl rfl (by decide) (by omega) (fun i hi=> .inl hi) (.inr rfl)
   have hat2:=zAQ g1 19 0 0 1 0
   have hD1:(D++D1++ [g1.depth -1+0])[g1.code.length]? =some g1.depth:=zAI s1.top
   have hd2:(emit g1 19 0 0 1 0).depth=g1.depth -1+0:=rfl
   have v2:(emit g1 19 0 0 1 0).vars=g.vars:=v1
   have lo2:(emit g1 19 0 0 1 0).locals=g.locals:=lo1
   generalize hg2:emit g1 19 0 0 1 0=g2 at*
   have hb:=zJ4 cs c _ g2 b _ vs s2 hv.1.2 hbf (sc.same v2)
   have hkb:=zDD cs c.fields g2 b
   have lob:(gSs cs c.fields g2 b).locals=g2.locals+Ck.lets b:=zA1 cs c.fields g2 b hv.1.2
   obtain⟨⟨D3,s3,k3⟩,_⟩:=hb
   have s3':Sd cs c.fields _ (shut g2 (gSs cs c.fields g2 b)) _:=s3.shut (g:=g2) (fun v hv=>by rw [v2] at hv;rw [lo2];exact s.nums v hv) (by omega)
   have hat3:(shut g2 (gSs cs c.fields g2 b)).code[g1.code.length]? =some (19,0,0):=hkb _ _ hat2
   have hd3:(shut g2 (gSs cs c.fields g2 b)).depth=g2.depth+0:=k3
   have v3:(shut g2 (gSs cs c.fields g2 b)).vars=g.vars:=v2
   generalize hg3:shut g2 (gSs cs c.fields g2 b)=g3 at*
   have hD3:(D++D1++ [g1.depth -1+0]++D3)[g1.code.length]? =some g1.depth:=zAI hD1
   have hD0:(D++D1++ [g1.depth -1+0]++D3)[g.code.length]? =some g3.depth:=by
    rw [show g3.depth=g.depth from by omega]
    exact zAI (zAI (zAI s.top))
   have s4:=s3'.back hD0
   have hat4:=Kp.emit g3 18 (g.code.length:Int) 0 0 0 _ _ hat3
   have hd4:(emit g3 18 (g.code.length:Int) 0 0 0).depth=g3.depth -0+0:=rfl
   have v4:(emit g3 18 (g.code.length:Int) 0 0 0).vars=g.vars:=v3
   generalize hg4:emit g3 18 (g.code.length:Int) 0 0 0=g4 at*
   have s5:=s4.patch (i:=g1.code.length) (o:=19) (a:=0) (d:=g1.depth) (p':=p) hat4 (zAI hD3) (by decide) (by show g4.depth=g1.depth -1;omega) (fun q hq=>hq.elim .inr .inl)
   exact Ns.of ⟨D1++ [g1.depth -1+0]++D3++ [g3.depth -0+0],by simp only [List.append_assoc] at s5 ⊢;exact s5,by show g4.depth=_;omega⟩ sc v4
  rw [if_neg h4]
  have hq:=hs (folds x) (fun _ he=>he)
  by_cases h5:k=5
  ·rw [if_pos h5]
   have hl:=hok.2.2.1 h5
   obtain⟨⟨D',s',k'⟩,hlt⟩:=hq.name nm
   have hv':=(name_vars (gEs cs c.fields g (folds x)) nm).trans (hvr _)
   have s2:=(s'.lg (decide (8<(folds x).length -1))).em (o:=21) (a:=((Co.name (gEs cs c.fields g (folds x)) nm).2:Int)) (b:=((folds x).length:Int) - 1) (P:=((folds x).length:Int)) (Q:=0) (by unfold pops;rw [if_neg (by decide),if_neg (by decide),if_neg (by decide),if_pos (by decide)];omega) rfl (by decide) (by show _≤(Co.name (gEs cs c.fields g (folds x)) nm).1.depth;omega) (.snd _ _ hlt (by omega) (fun hq=>by have h8:=(Bool.or_eq_false_iff.1 hq).2;have:=of_decide_eq_false h8;omega))
   exact Ns.of ⟨D'++ [(Co.name (gEs cs c.fields g (folds x)) nm).1.depth -((folds x).length:Int)+0],by rw [←List.append_assoc];exact s2,by show(Co.name (gEs cs c.fields g (folds x)) nm).1.depth -((folds x).length:Int)+0=_;omega⟩ sc hv'
  rw [if_neg h5]
  by_cases h6:k=6
  ·rw [if_pos h6]
   have hl:=hok.1 (by omega)
   rw [take_one (by omega)]
   exact Ns.of ((hq.em (by rfl) (by rfl) (by decide) (by omega) (.flat 22 (by omega))).cast (by omega)) sc (hvr _)
  rw [if_neg h6]
  by_cases h7:k=7
  ·rw [if_pos h7]
   have hl:=hok.2.1 (by omega)
   exact Ns.of ((hq.em (by rfl) (by rfl) (by decide) (by omega) (.flat 23 (by omega))).cast (by omega)) sc (hvr _)
  rw [if_neg h7]
  by_cases h8:k=8
  ·rw [if_pos h8]
   have hl:=hok.2.1 (by omega)
   have hq:=hq.name nm
   exact Ns.of ((hq.1.em (by rfl) (by rfl) (by decide) (by omega) (.nam 24 _ (by omega) hq.2)).cast (by omega)) sc ((name_vars _ _).trans (hvr _))
  rw [if_neg h8]
  exact Ns.of ((s.nx.em (by rfl) (by rfl) (by decide) (by omega) (.flat 25 (by omega))).cast (by omega)) sc rfl
theorem zJ4 (cs:List C) (c:C):∀(p:Nat→Prop) (g:G) (l:List S) (D:List Int) (vs:List ByteArray),Sd cs c.fields p g D→validSs l=true→(∀t,t<13→Ck.faultSs cs c l vs t=false)→Sc vs g→Nx cs c.fields p g (gSs cs c.fields g l) D 0∧True
 |p,g,[],D,vs,s,hv,hf,sc=>by rw [gSs];exact⟨s.nx,trivial⟩
 |p,g,.mk k nm x b l::r,D,vs,s,hv,hf,sc=>by
  rw [validSs,Bool.and_eq_true] at hv
  have hf2:∀t,t<13→Ck.faultS cs c (.mk k nm x b l) vs t=false∧Ck.faultSs cs c r (Ck.addVar k nm vs) t=false:=fun t ht=>by
   have:=hf t ht
   rw [Ck.faultSs,Bool.or_eq_false_iff] at this
   exact this
  have h1:=gS_sd cs c p g (.mk k nm x b l) D vs s hv.1 (fun t ht=>(hf2 t ht).1) sc
  rw [gSs]
  exact⟨(h1.1.trans (fun D' s'=>(zJ4 cs c p _ r D' (Ck.addVar k nm vs) s' hv.2 (fun t ht=>(hf2 t ht).2) h1.2).1)).cast (by omega),trivial⟩
end
end
structure Good (cs:List C) (fs:List ByteArray) (g:G) (D:List Int):Prop where
 len:D.length=g.code.length
 nn:∀(i:Nat) (d:Int),D[i]? =some d→0≤d∧d≤64
 zero:D[0]? =some 0
 last:g.code[g.code.length -1]? =some (25,0,0)
 pop:∀(i:Nat) (o a b d:Int),g.code[i]? =some (o,a,b)→D[i]? =some d→pops o b≤d
 fall:∀(i:Nat) (o a b d:Int),g.code[i]? =some (o,a,b)→D[i]? =some d→o≠18→o≠25→D[i+1]? =some (d -pops o b+pushes o)
 jump:∀(i:Nat) (o a b d:Int),g.code[i]? =some (o,a,b)→D[i]? =some d→Jp o→0≤a∧D[a.toNat]? =some (d -pops o b+pushes o)
 ins:∀(i:Nat) (x:Ins),g.code[i]? =some x→Fin cs fs g.names.length g.locals g.code.length false x
theorem zOP (ps:List ByteArray):Sc ps ⟨[],[],vars0 ps,ps.length,0,0,false⟩∧∀v∈vars0 ps,v.2<ps.length:=by
 refine⟨fun s hs=>?_,fun v hv=>?_⟩
 ·unfold Ck.hasS at hs
  obtain⟨x,hx,e⟩:=List.any_eq_true.1 hs
  obtain⟨i,hi,hx2⟩:=List.getElem_of_mem hx
  exact⟨(x,i),by show(x,i)∈ps.zipIdx;rw [List.mem_zipIdx_iff_getElem?];show ps[i]? =some x;rw [List.getElem?_eq_getElem hi,hx2],of_decide_eq_true e⟩
 ·have h1:v∈ps.zipIdx:=hv
  rw [List.mem_zipIdx_iff_getElem?] at h1
  exact zGX h1
theorem zT4 {cs:List C} {c:C} {m:M} {g:G} (h:gM cs c m=some g) (hv:validSs m.body=true) (hf:∀t,t<13→Ck.faultSs cs c m.body m.params t=false):∃D,Good cs c.fields g D:=by
 unfold gM at h
 dsimp only at h
 split at h
 ·cases h
 ·rename_i hb
  have hz:=zOP m.params
  have s0:Sd cs c.fields (fun _=>False) ⟨[],[],vars0 m.params,m.params.length,0,0,false⟩ [0]:=by
   refine⟨⟨rfl,fun i d hd=>?_,fun i o a b d hc=>?_,fun i o a b d hc=>?_,fun i o a b d hc=>?_⟩,rfl,fun i x hc=>?_,hz.2⟩
   ·cases i with
    |zero=>cases hd;exact⟨Int.le_refl _,Int.le_refl _⟩
    |succ i=>simp at hd
   all_goals simp at hc
  obtain⟨⟨D',s1,k1⟩,_⟩:=zJ4 cs c (fun _=>False) _ m.body [0] m.params s0 hv hf hz.1
  have hsb:gB cs c.fields ⟨[],[],vars0 m.params,m.params.length,0,0,false⟩ m.body=shut ⟨[],[],vars0 m.params,m.params.length,0,0,false⟩ (gSs cs c.fields ⟨[],[],vars0 m.params,m.params.length,0,0,false⟩ m.body):=rfl
  have lo:(gSs cs c.fields ⟨[],[],vars0 m.params,m.params.length,0,0,false⟩ m.body).locals=m.params.length+Ck.lets m.body:=zA1 cs c.fields _ _ hv
  have s2:Sd cs c.fields (fun _=>False) (gB cs c.fields ⟨[],[],vars0 m.params,m.params.length,0,0,false⟩ m.body) ([0]++D'):=by
   rw [hsb]
   exact s1.shut (g:=⟨[],[],vars0 m.params,m.params.length,0,0,false⟩) hz.2 (by rw [lo];exact Nat.le_add_right _ _)
  generalize gB cs c.fields ⟨[],[],vars0 m.params,m.params.length,0,0,false⟩ m.body=g1 at*
  cases h
  have hn:=s2.nn
  have hlg:g1.large=false:=by
   cases hx:g1.large with
   |false=>rfl
   |true=>exact absurd (.inl hx) hb
  have hms:max g1.most (g1.depth -0+0)≤64:=by
   have:¬64<(emit g1 25 0 0 0 0).most:=fun h=>hb (.inr (.inr (.inr h)))
   have h2:(emit g1 25 0 0 0 0).most=max g1.most (g1.depth -0+0):=rfl
   omega
  have hlen:∀(i:Nat) (o a b:Int),(emit g1 25 0 0 0 0).code[i]? =some (o,a,b)→g1.code[i]? =some (o,a,b)∨(i=g1.code.length∧o=25∧b=0):=fun i o a b hc=>by
   rcases zE2 (show(g1.code++ [(25,0,0)])[i]? =some (o,a,b) from hc) with h|⟨h1,h2⟩
   ·exact .inl h
   ·cases h2
    exact .inr ⟨h1,rfl,rfl⟩
  refine⟨[0]++D',?_,fun i d hd=>?_,rfl,?_,fun i o a b d hc hd=>?_,fun i o a b d hc hd h18 h25=>?_,fun i o a b d hc hd hJ=>?_,?_⟩
  ·rw [zO]
   exact s2.fl.len
  ·have:=s2.fl.nn i d hd
   omega
  ·rw [zO,Nat.add_sub_cancel]
   exact zAQ g1 25 0 0 0 0
  ·rcases hlen i o a b hc with h|⟨rfl,rfl,rfl⟩
   ·exact s2.fl.pop i _ _ _ _ h hd
   ·have:=(s2.fl.nn _ d hd).1
    exact this
  ·rcases hlen i o a b hc with h|⟨rfl,rfl,rfl⟩
   ·exact s2.fl.fall i _ _ _ _ h hd h18 h25
   ·exact absurd rfl h25
  ·rcases hlen i o a b hc with h|⟨rfl,rfl,rfl⟩
   ·exact s2.fl.jump i _ _ _ _ h hd hJ (fun h=>h)
   ·exact absurd hJ (by decide)
  ·rw [zO,←hlg]
   exact zGT (fun i x hx=>(s2.ins i x hx).mono (Nat.le_refl _) (Nat.le_refl _) (Nat.le_succ _) id) (.flat 25 (by omega))
end Co
end Go.Proofs.YtcnmfcgmnkncaaaGreatDoor
namespace Go.Proofs.YtcnmfcgmnkncaaaGreatDoor
namespace Co
open Tr
def Both (g h:G):Prop:=Ext g h∧Inv h
theorem Ext.same {g h:G} (e:h.code=g.code):Ext g h:=⟨[],by rw [e,List.append_nil]⟩
theorem Inv.same {g h:G} (hi:Inv g) (e:h.code=g.code) (e2:h.names=g.names):Inv h:=⟨by rw [e,e2];exact hi.use,by rw [e2];exact hi.nodup⟩
theorem Both.nm {g h:G} (b:Both g h) (s:ByteArray) {o:Int} (ho:named o=true) (y p q:Int):Both g (emit (name h s).1 o (name h s).2 y p q):=⟨b.1.trans ((Ext.name h s).trans (.emit ..)),b.2.named s ho _ _ _⟩
theorem zP3 {cs:List C} {c:C} {m:M} {g:G} (hv:validSs m.body=true) (h:gM cs c m=some g):g.locals=m.params.length+Ck.lets m.body:=by
 unfold gM at h
 dsimp only at h
 split at h
 ·cases h
 ·cases h
  exact zA1 cs c.fields _ _ hv
theorem zVD {cs:List C} {n:Nat} {r:List Nat} (h:Ck.check cs=n::r):n≠0∧n≤8:=by
 have hm:n∈Ck.check cs:=by rw [h];exact List.mem_cons_self ..
 unfold Ck.check at hm
 split at hm
 ·obtain⟨f,_,rfl⟩:=List.mem_map.1 hm
  unfold Ck.code
  repeat' split
  all_goals omega
 ·rw [List.mem_singleton.1 hm]
  omega
end Co
end Go.Proofs.YtcnmfcgmnkncaaaGreatDoor
namespace Go.Proofs.YtcnmfcgmnkncaaaGreatDoor
namespace Ck
open Tr
theorem zUT {f:Nat→Bool}:found f= []↔∀t,t<13→f t=false:=by
 unfold found
 rw [List.filter_eq_nil_iff]
 simp
theorem zUI (cs:List C) (i:Nat) (c:C):∀(l:List M) (k:Nat),faultsM cs i c l k= []↔∀j m,l[j]? =some m→∀t,t<13→faultM cs c (k+j) m t=false
 | [],k=>by simp [faultsM]
 |x::r,k=>by
  rw [faultsM,List.append_eq_nil_iff,List.map_eq_nil_iff,zUT,zUI cs i c r (k+1)]
  constructor
  ·rintro ⟨h1,h2⟩ j m hj
   cases j with
   |zero=>cases hj;exact h1
   |succ j=>have:=h2 j m (by simpa using hj);rwa [show k+1+j=k+(j+1) by omega] at this
  ·intro h
   refine⟨h 0 x rfl,fun j m hj=>?_⟩
   have:=h (j+1) m (by simpa using hj)
   rwa [show k+(j+1)=k+1+j by omega] at this
theorem zUJ (cs:List C):∀(l:List C) (i:Nat),faultsC cs l i= []↔
 ∀j c,l[j]? =some c→(∀t,t<13→faultC cs (i+j) c t=false)∧∀k m,c.methods[k]? =some m→∀t,t<13→faultM cs c k m t=false
 | [],i=>by simp [faultsC]
 |x::r,i=>by
  rw [faultsC,List.append_eq_nil_iff,List.append_eq_nil_iff,List.map_eq_nil_iff,zUT,zUI,zUJ cs r (i+1)]
  constructor
  ·rintro ⟨⟨h1,h2⟩,h3⟩ j c hj
   cases j with
   |zero=>cases hj;exact⟨h1,fun k m hk=>by have:=h2 k m hk;rwa [Nat.zero_add] at this⟩
   |succ j=>have:=h3 j c (by simpa using hj);rwa [show i+1+j=i+(j+1) by omega] at this
  ·intro h
   refine⟨⟨(h 0 x rfl).1,fun k m hk=>?_⟩,fun j c hj=>?_⟩
   ·rw [Nat.zero_add];exact(h 0 x rfl).2 k m hk
   ·have:=h (j+1) c (by simpa using hj)
    rwa [show i+(j+1)=i+1+j by omega] at this
structure NoFault (cs:List C):Prop where
 cls:∀(i:Nat) (c:C),cs[i]? =some c→∀t,t<13→faultC cs i c t=false
 mth:∀(i:Nat) (c:C),cs[i]? =some c→∀(k:Nat) (m:M),c.methods[k]? =some m→∀t,t<13→faultM cs c k m t=false
theorem zVC (cs:List C):faults cs= []↔NoFault cs:=by
 unfold faults
 rw [zUJ]
 constructor
 ·intro h
  exact⟨fun i c hi=>by have:=(h i c hi).1;rwa [Nat.zero_add] at this,fun i c hi=>(h i c hi).2⟩
 ·intro h i c hi
  rw [Nat.zero_add]
  exact⟨h.cls i c hi,h.mth i c hi⟩
theorem zVE (cs:List C):check cs= []↔validP cs=true∧NoFault cs:=by
 unfold check
 by_cases h:validP cs=true
 ·rw [if_pos h,List.map_eq_nil_iff,zVC];simp [h]
 ·rw [if_neg h];simp [h]
def nf (cs:List C) (i:Nat):Int:=((cs[i]?.map fun c=>c.fields.length).getD 0:Int)
def Ext (cs cs':List C):Prop:=∀nm i,classAt cs nm=some i→∃i',classAt cs' nm=some i'∧nf cs' i'=nf cs i
theorem zUW {cs:List C} {nm:Str} {i:Nat} (h:classAt cs nm=some i):∃c,cs[i]? =some c∧c.name=nm∧∀j c',j<i→cs[j]? =some c'→c'.name≠nm:=by
 unfold classAt at h
 rw [List.findIdx?_eq_some_iff_getElem] at h
 obtain⟨hlt,h1,h2⟩:=h
 refine⟨cs[i],List.getElem?_eq_getElem hlt,of_decide_eq_true h1,fun j c' hj hc=>?_⟩
 have hjl:j<cs.length:=by omega
 have:=h2 j hj
 rw [List.getElem?_eq_getElem hjl] at hc
 cases hc
 simpa using this
theorem zUV {cs:List C} {nm:Str} (h:classAt cs nm=none):∀(j:Nat) (c:C),cs[j]? =some c→c.name≠nm:=by
 unfold classAt at h
 rw [List.findIdx?_eq_none_iff] at h
 intro j c hj
 have:=h c (List.mem_of_getElem? hj)
 simpa using this
theorem zUU {cs:List C} {j:Nat} {c:C} (hj:cs[j]? =some c):∃i,classAt cs c.name=some i∧i≤j:=by
 cases h:classAt cs c.name with
 |none=>exact absurd rfl (zUV h j c hj)
 |some i=>
  refine⟨i,rfl,?_⟩
  obtain⟨c2,_,_,h2⟩:=zUW h
  rcases Nat.lt_or_ge j i with hlt|hge
  ·exact absurd rfl (h2 j c hlt hj)
  ·exact hge
theorem NoFault.names {cs:List C} (h:NoFault cs) {i j:Nat} {c d:C} (hi:cs[i]? =some c) (hj:cs[j]? =some d) (hn:c.name=d.name):i=j:=by
 have key:∀i c,cs[i]? =some c→classAt cs c.name=some i:=by
  intro i c hi
  have h2:=h.cls i c hi 2 (by omega)
  unfold faultC at h2
  obtain⟨i2,h1,hle⟩:=zUU hi
  rw [h1] at h2 ⊢
  simp at h2
  have:=h2.1
  rw [show i2=i by omega]
 have h1:=key i c hi
 have h2:=key j d hj
 rw [hn,h2] at h1
 cases h1
 rfl
end Ck
end Go.Proofs.YtcnmfcgmnkncaaaGreatDoor
