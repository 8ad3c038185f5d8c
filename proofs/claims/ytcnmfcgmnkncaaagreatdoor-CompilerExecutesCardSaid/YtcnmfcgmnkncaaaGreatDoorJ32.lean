/-
  Several texts in one: CoSoundC, CoKinds, CoExP, CoMethQ, CoUses.
-/
import Derived.Test.YtcnmfcgmnkncaaaGreatDoorJ31
namespace Go.Proofs.YtcnmfcgmnkncaaaGreatDoor
namespace Co
open Tr
set_option maxHeartbeats 4000000 in
mutual
theorem zT1 (cs:List C) (fs:List ByteArray):∀(g:G) (s:S),Kp g (gS cs fs g s)
 |g,.mk k nm x b l=>by
  have he:∀y:List E,Kp g (gEs cs fs g y):=fun y=>zEJ cs fs g y
  have hb:∀h:G,Kp h (gSs cs fs h b):=fun h=>zDD cs fs h b
  have hl:∀h:G,Kp h (gSs cs fs h l):=fun h=>zDD cs fs h l
  rw [gS]
  dsimp only
  by_cases h0:k=0
  ·rw [if_pos h0]
   exact(he ((folds x).take 1)).trans (Kp.emit _ 4 (g.locals:Int) 0 1 0)
  rw [if_neg h0]
  by_cases h1:k=1
  ·rw [if_pos h1]
   exact(he _).trans (Kp.emit _ _ _ _ _ _)
  rw [if_neg h1]
  by_cases h2:k=2
  ·rw [if_pos h2]
   split
   ·exact(he _).trans (Kp.emit _ _ _ _ _ _)
   ·exact(he _).trans ((Kp.name _ _).trans (Kp.emit _ _ _ _ _ _))
  rw [if_neg h2]
  by_cases h3:k=3
  ·rw [if_pos h3]
   have a1:=he ((folds x).take 1)
   generalize gEs cs fs g ((folds x).take 1)=g1 at a1 ⊢
   have a2:Kp g (shut (emit g1 19 0 0 1 0) (gSs cs fs (emit g1 19 0 0 1 0) b)):=a1.trans ((Kp.emit g1 19 0 0 1 0).trans (hb _))
   generalize shut (emit g1 19 0 0 1 0) (gSs cs fs (emit g1 19 0 0 1 0) b)=g2 at a2 ⊢
   split
   ·exact a2.patch a1.len
   ·have a3:Kp g (shut g2 (gSs cs fs (patch (emit g2 18 0 0 0 0) g1.code.length) l)):=((a2.trans (Kp.emit g2 18 0 0 0 0)).patch a1.len).trans (hl _)
    exact a3.patch a2.len
  rw [if_neg h3]
  by_cases h4:k=4
  ·rw [if_pos h4]
   have a1:=he ((folds x).take 1)
   generalize gEs cs fs g ((folds x).take 1)=g1 at a1 ⊢
   have a2:Kp g (shut (emit g1 19 0 0 1 0) (gSs cs fs (emit g1 19 0 0 1 0) b)):=a1.trans ((Kp.emit g1 19 0 0 1 0).trans (hb _))
   generalize shut (emit g1 19 0 0 1 0) (gSs cs fs (emit g1 19 0 0 1 0) b)=g2 at a2 ⊢
   exact(a2.trans (Kp.emit _ _ _ _ _ _)).patch a1.len
  rw [if_neg h4]
  by_cases h5:k=5
  ·rw [if_pos h5]
   have a3:=(he (folds x)).trans (Kp.name _ nm)
   exact fun i y hy=>(Kp.emit _ 21 _ _ _ _) i y (a3 i y hy)
  rw [if_neg h5]
  repeat' split
  all_goals first
   |exact (he _).trans (Kp.emit _ _ _ _ _ _)
   |exact (he _).trans ((Kp.name _ _).trans (Kp.emit _ _ _ _ _ _))
   |exact Kp.emit _ _ _ _ _ _
theorem zDD (cs:List C) (fs:List ByteArray):∀(g:G) (l:List S),Kp g (gSs cs fs g l)
 |g,[]=>by rw [gSs];exact .refl g
 |g,s::r=>by rw [gSs];exact(zT1 cs fs g s).trans (zDD cs fs _ r)
end
theorem zTW {k:Int} {nm:ByteArray} {n nb ne:Nat} (h:okS k nm n nb ne=true):(k=0∨k=1∨k=3∨k=4∨k=6→n=1)∧(k=2∨k=7∨k=8→n=2)∧(k=5→1≤n)∧0≤k∧k≤9:=by
 unfold okS at h
 repeat' split at h
 all_goals simp only [Bool.and_eq_true,decide_eq_true_eq,Bool.false_eq_true] at h
 all_goals omega
theorem Sc.addv {vs:List ByteArray} {g h:G} (s:Sc vs g) {nm:ByteArray} {n:Nat} (e:h.vars=g.vars++ [(nm,n)]):Sc (Ck.addVar 0 nm vs) h:=fun x hx=>by
 unfold Ck.addVar at hx
 rw [if_pos rfl] at hx
 unfold Ck.hasS at hx
 rw [List.any_append,Bool.or_eq_true] at hx
 rw [e]
 rcases hx with hx|hx
 ·obtain⟨v,hv,h2⟩:=s x hx
  exact⟨v,List.mem_append.2 (.inl hv),h2⟩
 ·refine⟨(nm,n),List.mem_append.2 (.inr (List.mem_singleton.2 rfl)),?_⟩
  simpa using hx
theorem take_one {α:Type} {l:List α} (h:l.length=1):l.take 1=l:=List.take_of_length_le (by omega)
section
variable {cs:List C} {fs vs:List ByteArray} {p:Nat→Prop}
def Ns (cs:List C) (fs:List ByteArray) (p:Nat→Prop) (g h:G) (D:List Int) (vs:List ByteArray):Prop:=Nx cs fs p g h D 0∧Sc vs h
theorem Ns.of {g h:G} {D:List Int} (n:Nx cs fs p g h D 0) (s:Sc vs g) (e:h.vars=g.vars):Ns cs fs p g h D vs:=⟨n,s.same e⟩
theorem name_vars (g:G) (nm:ByteArray):(name g nm).1.vars=g.vars:=by unfold name;split<;>rfl
theorem Nx.name {g h:G} {D:List Int} {k:Int} (n:Nx cs fs p g h D k) (nm:ByteArray):Nx cs fs p g (name h nm).1 D k∧(Co.name h nm).2<(Co.name h nm).1.names.length:=by
 obtain⟨D',s,hk⟩:=n
 exact⟨⟨D',(s.name nm).1,by rw [(s.name nm).2.2.1];exact hk⟩,(s.name nm).2.1⟩
set_option maxHeartbeats 8000000 in
mutual
theorem gS_sd (cs:List C) (c:C):∀(p:Nat→Prop) (g:G) (s:S) (D:List Int) (vs:List ByteArray),Sd cs c.fields p g D→validS s=true→(∀t,t<13→Ck.faultS cs c s vs t=false)→Sc vs g→Ns cs c.fields p g (gS cs c.fields g s) D (Ck.addVar s.kind s.name vs)
 |p,g,.mk k nm x b l,D,vs,s,hv,hf,sc=>by
  rw [validS,Bool.and_eq_true,Bool.and_eq_true,Bool.and_eq_true] at hv
  have hok:=zTW hv.1.1.2
  have hf2:∀t,t<13→((Ck.faultEs cs c.fields vs x t=false∧Ck.ownS c vs k nm x t=false)∧Ck.faultSs cs c b (Ck.addVar k nm vs) t=false)∧Ck.faultSs cs c l (Ck.addVar k nm vs) t=false:=fun t ht=>by
   have:=hf t ht
   rw [Ck.faultS,Bool.or_eq_false_iff,Bool.or_eq_false_iff,Bool.or_eq_false_iff] at this
   exact this
  have cx:Cl cs c.fields vs x:=⟨hv.1.1.1,fun t ht=>(hf2 t ht).1.1.1⟩
  have ce:=cx.fold
  have hle:(folds x).length=x.length:=zAB x
  have hs:∀y:List E,(∀e∈y,e∈folds x)→Nx cs c.fields p g (gEs cs c.fields g y) D y.length:=fun y hy=>zMQ cs c.fields vs p g y D s (ce.sub hy) sc
  have hvr:∀y:List E,(gEs cs c.fields g y).vars=g.vars:=fun y=>gEs_vars cs c.fields g y
  have hn:=s.nn
  have hkd:Ck.addVar (S.mk k nm x b l).kind (S.mk k nm x b l).name vs=Ck.addVar k nm vs:=rfl
  rw [hkd,gS]
  have hav:k≠0→Ck.addVar k nm vs=vs:=fun h0=>if_neg h0
  by_cases h0:k=0
  ·rw [if_pos h0]
   subst h0
   have h1:=hs ((folds x).take 1) (fun e he=>List.mem_of_mem_take he)
   rw [take_one (by rw [hle];exact hok.1 (by omega))] at h1
   rw [take_one (by rw [hle];exact hok.1 (by omega))]
   have hl:=hok.1 (by omega)
   dsimp only
   have hlo:(gEs cs c.fields g (folds x)).locals=g.locals:=zA5 ..
   obtain⟨D',s1,k1⟩:=h1
   have s2:=(s1.decl nm).em (o:=4) (a:=(g.locals:Int)) (b:=0) (P:=1) (Q:=0) rfl rfl (by decide) (by show 1≤(gEs cs c.fields g (folds x)).depth;omega) (.loc 4 g.locals (by omega) (by show g.locals<(gEs cs c.fields g (folds x)).locals+1;omega))
   refine⟨⟨D'++ [(gEs cs c.fields g (folds x)).depth -1+0],?_,?_⟩,Sc.addv (g:=g) sc (n:=g.locals) ?_⟩
   ·rw [←List.append_assoc]
    exact s2
   ·show(gEs cs c.fields g (folds x)).depth -1+0=_
    omega
   ·show(gEs cs c.fields g (folds x)).vars++ [(nm,(gEs cs c.fields g (folds x)).locals)]=_
    rw [hvr,hlo]
  rw [if_neg h0,hav h0]
  have hbf:∀t,t<13→Ck.faultSs cs c b vs t=false:=fun t ht=>by have:=(hf2 t ht).1.2;rw [hav h0] at this;exact this
  have hlf:∀t,t<13→Ck.faultSs cs c l vs t=false:=fun t ht=>by have:=(hf2 t ht).2;rw [hav h0] at this;exact this
  by_cases h1:k=1
  ·rw [if_pos h1]
   have hl:=hok.1 (by omega)
   rw [take_one (by omega)]
   have h9:=(hf2 7 (by decide)).1.1.2
   unfold Ck.ownS at h9
   rw [if_neg h0,if_pos h1] at h9
   have hq:=hs (folds x) (fun _ he=>he)
   obtain⟨v,hv,e⟩:=zMG ((sc.same (hvr (folds x))) nm (by simpa using h9))
   rw [e]
   obtain⟨D',s1,k1⟩:=hq
   exact Ns.of ((Nx.em ⟨D',s1,k1⟩ (by rfl) (by rfl) (by decide) (by omega) (.loc 4 v.2 (by omega) (s1.nums v hv))).cast (by omega)) sc (hvr _)
  rw [if_neg h1]
  by_cases h2:k=2
  ·rw [if_pos h2]
   have hl:=hok.2.1 (by omega)
   by_cases h5:Ck.headKind (folds x)=2
   ·rw [if_pos h5]
    have h9:=(hf2 10 (by decide)).1.1.2
    unfold Ck.ownS at h9
    rw [if_neg h0,if_neg h1,if_pos h2,decide_eq_true ((zHW x).1 h5)] at h9
    obtain⟨n,e,hlt⟩:=zS5 (l:=c.fields) (s:=nm) (by simpa using h9)
    rw [e]
    have hq:=hs ((folds x).drop 1) (fun _ he=>List.mem_of_mem_drop he)
    have hl2:((folds x).drop 1).length=1:=by rw [List.length_drop];omega
    exact Ns.of ((hq.em (by rfl) (by rfl) (by decide) (by omega) (.own 9 n (by omega) hlt)).cast (by omega)) sc (hvr _)
   ·rw [if_neg h5]
    have hq:=(hs (folds x) (fun _ he=>he)).name nm
    exact Ns.of ((hq.1.em (by rfl) (by rfl) (by decide) (by omega) (.nam 8 _ (by omega) hq.2)).cast (by omega)) sc ((name_vars _ _).trans (hvr _))
  rw [if_neg h2]
  by_cases h3:k=3
  ·rw [if_pos h3]
   have hl:=hok.1 (by omega)
   rw [take_one (by omega)]
   dsimp only
   obtain⟨D1,s1,k1⟩:=hs (folds x) (fun _ he=>he)
   have v1:=hvr (folds x)
   have lo1:(gEs cs c.fields g (folds x)).locals=g.locals:=zA5 ..
   generalize hg1:gEs cs c.fields g (folds x)=g1 at*
   have s2:=s1.jp (o:=19) (P:=1) (p':=fun i=>p i∨i=g1.code.length) rfl rfl (by decide) (by omega) (fun i hi=> .inl hi) (.inr rfl)
   have hat2:=zAQ g1 19 0 0 1 0
   have hD1:(D++D1++ [g1.depth -1+0])[g1.code.length]? =some g1.depth:=zAI s1.top
   have hd2:(emit g1 19 0 0 1 0).depth=g1.depth -1+0:=rfl
   have v2:(emit g1 19 0 0 1 0).vars=g.vars:=v1
   have lo2:(emit g1 19 0 0 1 0).locals=g.locals:=lo1
   generalize hg2:emit g1 19 0 0 1 0=g2 at*
   have hb:=zJ4 cs c _ g2 b _ vs s2 hv.1.2 hbf (sc.same v2)
   have hkb:=zDD cs c.fields g2 b
   have lob:(gSs cs c.fields g2 b).locals=g2.locals+Ck.lets b:=zA1 cs c.fields g2 b hv.1.2
   obtain⟨⟨D3,s3,k3⟩,_⟩:=hb
   have s3':Sd cs c.fields _ (shut g2 (gSs cs c.fields g2 b)) _:=s3.shut (g:=g2) (fun v hv=>by rw [v2] at hv;rw [lo2];exact s.nums v hv) (by omega)
   have hat3:(shut g2 (gSs cs c.fields g2 b)).code[g1.code.length]? =some (19,0,0):=hkb _ _ hat2
   have hd3:(shut g2 (gSs cs c.fields g2 b)).depth=g2.depth+0:=k3
   have v3:(shut g2 (gSs cs c.fields g2 b)).vars=g.vars:=v2
   have lo3:(shut g2 (gSs cs c.fields g2 b)).locals=g.locals+Ck.lets b:=by rw [←lo2];exact lob
   generalize hg3:shut g2 (gSs cs c.fields g2 b)=g3 at*
   have hD3:(D++D1++ [g1.depth -1+0]++D3)[g1.code.length]? =some g1.depth:=zAI hD1
   split
   ·have s4:=s3'.patch (i:=g1.code.length) (o:=19) (a:=0) (d:=g1.depth) (p':=p) hat3 hD3 (by decide) (by show g3.depth=g1.depth -1;omega) (fun q hq=>hq.elim .inr .inl)
    exact Ns.of ⟨D1++ [g1.depth -1+0]++D3,by simp only [List.append_assoc] at s4 ⊢;exact s4,by show g3.depth=_;omega⟩ sc v3
   ·have s4:=s3'.jp (o:=18) (P:=0) (p':=fun i=>p i∨i=g1.code.length∨i=g3.code.length) rfl rfl (by decide) (by omega) (fun i hi=>hi.elim .inl (fun e=> .inr (.inl e))) (.inr (.inr rfl))
    have hat4:=Kp.emit g3 18 0 0 0 0 _ _ hat3
    have hat4':=zAQ g3 18 0 0 0 0
    have hlt:g1.code.length≠g3.code.length:=by
     have:=zGX hat3
     omega
    have hd4:(emit g3 18 0 0 0 0).depth=g3.depth -0+0:=rfl
    have v4:(emit g3 18 0 0 0 0).vars=g.vars:=v3
    have lo4:(emit g3 18 0 0 0 0).locals=g.locals+Ck.lets b:=lo3
    generalize hg4:emit g3 18 0 0 0 0=g4 at*
    have s5:=s4.patch (i:=g1.code.length) (o:=19) (a:=0) (d:=g1.depth) (p':=fun i=>p i∨i=g3.code.length) hat4 (zAI hD3) (by decide) (by show g4.depth=g1.depth -1;omega) (fun q hq=>by rcases hq with hq|hq|hq;exact .inr (.inl hq);exact .inl hq;exact .inr (.inr hq))
    have hat5:(patch g4 g1.code.length).code[g3.code.length]? =some (18,0,0):=by rw [zCZ _ _ _ hlt];exact hat4'
    have hd5:(patch g4 g1.code.length).depth=g4.depth:=rfl
    have v5:(patch g4 g1.code.length).vars=g.vars:=v4
    have lo5:(patch g4 g1.code.length).locals=g.locals+Ck.lets b:=lo4
    have hDi:(D++D1++ [g1.depth -1+0]++D3++ [g3.depth -0+0])[g3.code.length]? =some g3.depth:=zAI s3'.top
    generalize hg5:patch g4 g1.code.length=g5 at*
    have hb2:=zJ4 cs c _ g5 l _ vs s5 hv.2 hlf (sc.same v5)
    have hkb2:=zDD cs c.fields g5 l
    have lob2:(gSs cs c.fields g5 l).locals=g5.locals+Ck.lets l:=zA1 cs c.fields g5 l hv.2
    obtain⟨⟨D6,s6,k6⟩,_⟩:=hb2
    have s6':Sd cs c.fields _ (shut g3 (gSs cs c.fields g5 l)) _:=s6.shut (g:=g3) (fun v hv=>by rw [v3] at hv;have:=s.nums v hv;omega) (by omega)
    have hat6:(shut g3 (gSs cs c.fields g5 l)).code[g3.code.length]? =some (18,0,0):=hkb2 _ _ hat5
    have hd6:(shut g3 (gSs cs c.fields g5 l)).depth=g5.depth+0:=k6
    have v6:(shut g3 (gSs cs c.fields g5 l)).vars=g.vars:=v3
    generalize hg6:shut g3 (gSs cs c.fields g5 l)=g6 at*
    have s7:=s6'.patch (i:=g3.code.length) (o:=18) (a:=0) (d:=g3.depth) (p':=p) hat6 (zAI hDi) (by decide) (by show g6.depth=g3.depth -0;omega) (fun q hq=>hq.elim .inr .inl)
    exact Ns.of ⟨D1++ [g1.depth -1+0]++D3++ [g3.depth -0+0]++D6,by simp only [List.append_assoc] at s7 ⊢;exact s7,by show g6.depth=_;omega⟩ sc v6
  rw [if_neg h3]
  by_cases h4:k=4
  ·rw [if_pos h4]
   have hl:=hok.1 (by omega)
   rw [take_one (by omega)]
   dsimp only
   obtain⟨D1,s1,k1⟩:=hs (folds x) (fun _ he=>he)
   have v1:=hvr (folds x)
   have lo1:(gEs cs c.fields g (folds x)).locals=g.locals:=zA5 ..
   generalize hg1:gEs cs c.fields g (folds x)=g1 at*
   have s2:=s1.jp (o:=19) (P:=1) (p':=fun i=>p i∨i=g1.code.length) rfl rfl (by decide) (by omega) (fun i hi=> .inl hi) (.inr rfl)
   have hat2:=zAQ g1 19 0 0 1 0
   have hD1:(D++D1++ [g1.depth -1+0])[g1.code.length]? =some g1.depth:=zAI s1.top
   have hd2:(emit g1 19 0 0 1 0).depth=g1.depth -1+0:=rfl
   have v2:(emit g1 19 0 0 1 0).vars=g.vars:=v1
   have lo2:(emit g1 19 0 0 1 0).locals=g.locals:=lo1
   generalize hg2:emit g1 19 0 0 1 0=g2 at*
   have hb:=zJ4 cs c _ g2 b _ vs s2 hv.1.2 hbf (sc.same v2)
   have hkb:=zDD cs c.fields g2 b
   have lob:(gSs cs c.fields g2 b).locals=g2.locals+Ck.lets b:=zA1 cs c.fields g2 b hv.1.2
   obtain⟨⟨D3,s3,k3⟩,_⟩:=hb
   have s3':Sd cs c.fields _ (shut g2 (gSs cs c.fields g2 b)) _:=s3.shut (g:=g2) (fun v hv=>by rw [v2] at hv;rw [lo2];exact s.nums v hv) (by omega)
   have hat3:(shut g2 (gSs cs c.fields g2 b)).code[g1.code.length]? =some (19,0,0):=hkb _ _ hat2
   have hd3:(shut g2 (gSs cs c.fields g2 b)).depth=g2.depth+0:=k3
   have v3:(shut g2 (gSs cs c.fields g2 b)).vars=g.vars:=v2
   generalize hg3:shut g2 (gSs cs c.fields g2 b)=g3 at*
   have hD3:(D++D1++ [g1.depth -1+0]++D3)[g1.code.length]? =some g1.depth:=zAI hD1
   have hD0:(D++D1++ [g1.depth -1+0]++D3)[g.code.length]? =some g3.depth:=by
    rw [show g3.depth=g.depth from by omega]
    exact zAI (zAI (zAI s.top))
   have s4:=s3'.back hD0
   have hat4:=Kp.emit g3 18 (g.code.length:Int) 0 0 0 _ _ hat3
   have hd4:(emit g3 18 (g.code.length:Int) 0 0 0).depth=g3.depth -0+0:=rfl
   have v4:(emit g3 18 (g.code.length:Int) 0 0 0).vars=g.vars:=v3
   generalize hg4:emit g3 18 (g.code.length:Int) 0 0 0=g4 at*
   have s5:=s4.patch (i:=g1.code.length) (o:=19) (a:=0) (d:=g1.depth) (p':=p) hat4 (zAI hD3) (by decide) (by show g4.depth=g1.depth -1;omega) (fun q hq=>hq.elim .inr .inl)
   exact Ns.of ⟨D1++ [g1.depth -1+0]++D3++ [g3.depth -0+0],by simp only [List.append_assoc] at s5 ⊢;exact s5,by show g4.depth=_;omega⟩ sc v4
  rw [if_neg h4]
  have hq:=hs (folds x) (fun _ he=>he)
  by_cases h5:k=5
  ·rw [if_pos h5]
   have hl:=hok.2.2.1 h5
   obtain⟨⟨D',s',k'⟩,hlt⟩:=hq.name nm
   have hv':=(name_vars (gEs cs c.fields g (folds x)) nm).trans (hvr _)
   have s2:=(s'.lg (decide (8<(folds x).length -1))).em (o:=21) (a:=((Co.name (gEs cs c.fields g (folds x)) nm).2:Int)) (b:=((folds x).length:Int) - 1) (P:=((folds x).length:Int)) (Q:=0) (by unfold pops;rw [if_neg (by decide),if_neg (by decide),if_neg (by decide),if_pos (by decide)];omega) rfl (by decide) (by show _≤(Co.name (gEs cs c.fields g (folds x)) nm).1.depth;omega) (.snd _ _ hlt (by omega) (fun hq=>by have h8:=(Bool.or_eq_false_iff.1 hq).2;have:=of_decide_eq_false h8;omega))
   exact Ns.of ⟨D'++ [(Co.name (gEs cs c.fields g (folds x)) nm).1.depth -((folds x).length:Int)+0],by rw [←List.append_assoc];exact s2,by show(Co.name (gEs cs c.fields g (folds x)) nm).1.depth -((folds x).length:Int)+0=_;omega⟩ sc hv'
  rw [if_neg h5]
  by_cases h6:k=6
  ·rw [if_pos h6]
   have hl:=hok.1 (by omega)
   rw [take_one (by omega)]
   exact Ns.of ((hq.em (by rfl) (by rfl) (by decide) (by omega) (.flat 22 (by omega))).cast (by omega)) sc (hvr _)
  rw [if_neg h6]
  by_cases h7:k=7
  ·rw [if_pos h7]
   have hl:=hok.2.1 (by omega)
   exact Ns.of ((hq.em (by rfl) (by rfl) (by decide) (by omega) (.flat 23 (by omega))).cast (by omega)) sc (hvr _)
  rw [if_neg h7]
  by_cases h8:k=8
  ·rw [if_pos h8]
   have hl:=hok.2.1 (by omega)
   have hq:=hq.name nm
   exact Ns.of ((hq.1.em (by rfl) (by rfl) (by decide) (by omega) (.nam 24 _ (by omega) hq.2)).cast (by omega)) sc ((name_vars _ _).trans (hvr _))
  rw [if_neg h8]
  exact Ns.of ((s.nx.em (by rfl) (by rfl) (by decide) (by omega) (.flat 25 (by omega))).cast (by omega)) sc rfl
theorem zJ4 (cs:List C) (c:C):∀(p:Nat→Prop) (g:G) (l:List S) (D:List Int) (vs:List ByteArray),Sd cs c.fields p g D→validSs l=true→(∀t,t<13→Ck.faultSs cs c l vs t=false)→Sc vs g→Nx cs c.fields p g (gSs cs c.fields g l) D 0∧True
 |p,g,[],D,vs,s,hv,hf,sc=>by rw [gSs];exact⟨s.nx,trivial⟩
 |p,g,.mk k nm x b l::r,D,vs,s,hv,hf,sc=>by
  rw [validSs,Bool.and_eq_true] at hv
  have hf2:∀t,t<13→Ck.faultS cs c (.mk k nm x b l) vs t=false∧Ck.faultSs cs c r (Ck.addVar k nm vs) t=false:=fun t ht=>by
   have:=hf t ht
   rw [Ck.faultSs,Bool.or_eq_false_iff] at this
   exact this
  have h1:=gS_sd cs c p g (.mk k nm x b l) D vs s hv.1 (fun t ht=>(hf2 t ht).1) sc
  rw [gSs]
  exact⟨(h1.1.trans (fun D' s'=>(zJ4 cs c p _ r D' (Ck.addVar k nm vs) s' hv.2 (fun t ht=>(hf2 t ht).2) h1.2).1)).cast (by omega),trivial⟩
end
end
structure Good (cs:List C) (fs:List ByteArray) (g:G) (D:List Int):Prop where
 len:D.length=g.code.length
 nn:∀(i:Nat) (d:Int),D[i]? =some d→0≤d∧d≤64
 zero:D[0]? =some 0
 last:g.code[g.code.length -1]? =some (25,0,0)
 pop:∀(i:Nat) (o a b d:Int),g.code[i]? =some (o,a,b)→D[i]? =some d→pops o b≤d
 fall:∀(i:Nat) (o a b d:Int),g.code[i]? =some (o,a,b)→D[i]? =some d→o≠18→o≠25→D[i+1]? =some (d -pops o b+pushes o)
 jump:∀(i:Nat) (o a b d:Int),g.code[i]? =some (o,a,b)→D[i]? =some d→Jp o→0≤a∧D[a.toNat]? =some (d -pops o b+pushes o)
 ins:∀(i:Nat) (x:Ins),g.code[i]? =some x→Fin cs fs g.names.length g.locals g.code.length false x
theorem zOP (ps:List ByteArray):Sc ps ⟨[],[],vars0 ps,ps.length,0,0,false⟩∧∀v∈vars0 ps,v.2<ps.length:=by
 refine⟨fun s hs=>?_,fun v hv=>?_⟩
 ·unfold Ck.hasS at hs
  obtain⟨x,hx,e⟩:=List.any_eq_true.1 hs
  obtain⟨i,hi,hx2⟩:=List.getElem_of_mem hx
  exact⟨(x,i),by show(x,i)∈ps.zipIdx;rw [List.mem_zipIdx_iff_getElem?];show ps[i]? =some x;rw [List.getElem?_eq_getElem hi,hx2],of_decide_eq_true e⟩
 ·have h1:v∈ps.zipIdx:=hv
  rw [List.mem_zipIdx_iff_getElem?] at h1
  exact zGX h1
theorem zT4 {cs:List C} {c:C} {m:M} {g:G} (h:gM cs c m=some g) (hv:validSs m.body=true) (hf:∀t,t<13→Ck.faultSs cs c m.body m.params t=false):∃D,Good cs c.fields g D:=by
 unfold gM at h
 dsimp only at h
 split at h
 ·cases h
 ·rename_i hb
  have hz:=zOP m.params
  have s0:Sd cs c.fields (fun _=>False) ⟨[],[],vars0 m.params,m.params.length,0,0,false⟩ [0]:=by
   refine⟨⟨rfl,fun i d hd=>?_,fun i o a b d hc=>?_,fun i o a b d hc=>?_,fun i o a b d hc=>?_⟩,rfl,fun i x hc=>?_,hz.2⟩
   ·cases i with
    |zero=>cases hd;exact⟨Int.le_refl _,Int.le_refl _⟩
    |succ i=>simp at hd
   all_goals simp at hc
  obtain⟨⟨D',s1,k1⟩,_⟩:=zJ4 cs c (fun _=>False) _ m.body [0] m.params s0 hv hf hz.1
  have hsb:gB cs c.fields ⟨[],[],vars0 m.params,m.params.length,0,0,false⟩ m.body=shut ⟨[],[],vars0 m.params,m.params.length,0,0,false⟩ (gSs cs c.fields ⟨[],[],vars0 m.params,m.params.length,0,0,false⟩ m.body):=rfl
  have lo:(gSs cs c.fields ⟨[],[],vars0 m.params,m.params.length,0,0,false⟩ m.body).locals=m.params.length+Ck.lets m.body:=zA1 cs c.fields _ _ hv
  have s2:Sd cs c.fields (fun _=>False) (gB cs c.fields ⟨[],[],vars0 m.params,m.params.length,0,0,false⟩ m.body) ([0]++D'):=by
   rw [hsb]
   exact s1.shut (g:=⟨[],[],vars0 m.params,m.params.length,0,0,false⟩) hz.2 (by rw [lo];exact Nat.le_add_right _ _)
  generalize gB cs c.fields ⟨[],[],vars0 m.params,m.params.length,0,0,false⟩ m.body=g1 at*
  cases h
  have hn:=s2.nn
  have hlg:g1.large=false:=by
   cases hx:g1.large with
   |false=>rfl
   |true=>exact absurd (.inl hx) hb
  have hms:max g1.most (g1.depth -0+0)≤64:=by
   have:¬64<(emit g1 25 0 0 0 0).most:=fun h=>hb (.inr (.inr (.inr h)))
   have h2:(emit g1 25 0 0 0 0).most=max g1.most (g1.depth -0+0):=rfl
   omega
  have hlen:∀(i:Nat) (o a b:Int),(emit g1 25 0 0 0 0).code[i]? =some (o,a,b)→g1.code[i]? =some (o,a,b)∨(i=g1.code.length∧o=25∧b=0):=fun i o a b hc=>by
   rcases zE2 (show(g1.code++ [(25,0,0)])[i]? =some (o,a,b) from hc) with h|⟨h1,h2⟩
   ·exact .inl h
   ·cases h2
    exact .inr ⟨h1,rfl,rfl⟩
  refine⟨[0]++D',?_,fun i d hd=>?_,rfl,?_,fun i o a b d hc hd=>?_,fun i o a b d hc hd h18 h25=>?_,fun i o a b d hc hd hJ=>?_,?_⟩
  ·rw [zO]
   exact s2.fl.len
  ·have:=s2.fl.nn i d hd
   omega
  ·rw [zO,Nat.add_sub_cancel]
   exact zAQ g1 25 0 0 0 0
  ·rcases hlen i o a b hc with h|⟨rfl,rfl,rfl⟩
   ·exact s2.fl.pop i _ _ _ _ h hd
   ·have:=(s2.fl.nn _ d hd).1
    exact this
  ·rcases hlen i o a b hc with h|⟨rfl,rfl,rfl⟩
   ·exact s2.fl.fall i _ _ _ _ h hd h18 h25
   ·exact absurd rfl h25
  ·rcases hlen i o a b hc with h|⟨rfl,rfl,rfl⟩
   ·exact s2.fl.jump i _ _ _ _ h hd hJ (fun h=>h)
   ·exact absurd hJ (by decide)
  ·rw [zO,←hlg]
   exact zGT (fun i x hx=>(s2.ins i x hx).mono (Nat.le_refl _) (Nat.le_refl _) (Nat.le_succ _) id) (.flat 25 (by omega))
end Co
end Go.Proofs.YtcnmfcgmnkncaaaGreatDoor
namespace Go.Proofs.YtcnmfcgmnkncaaaGreatDoor
namespace Co
open Tr
def okOp (o:Int):Prop:=o=0∨o=1∨o=3∨o=14∨o=15∨o=16∨o=17∨o=18∨o=19∨o=20∨o=22∨o=25
def Oc (g:G):Prop:=∀o∈g.code.map Prod.fst,okOp o
theorem Oc.em {g:G} (h:Oc g) {o:Int} (ho:okOp o) (a b p q:Int):Oc (emit g o a b p q):=fun x hx=>by
 have h1:x∈(g.code++ [(o,a,b)]).map Prod.fst:=hx
 rw [List.map_append] at h1
 rcases List.mem_append.1 h1 with h1|h1
 ·exact h x h1
 ·rw [List.mem_singleton.1 h1]
  exact ho
theorem Oc.patch {g:G} (h:Oc g) (i:Nat):Oc (patch g i):=fun x hx=>by
 have h2:=zES g.code i (fun x=>(x.1,(g.code.length:Int),x.2.2)) (fun _=>rfl)
 have h3:x∈g.code.map Prod.fst:=by
  rw [←h2]
  exact hx
 exact h x h3
theorem Oc.same {g h:G} (o:Oc g) (e:h.code=g.code):Oc h:=fun x hx=>o x (by rw [←e];exact hx)
theorem zM1 {k o i:Int} {nm:ByteArray} {a:Bool} {l:List E} (h:cov (.mk k o i nm a l)=true):k=0∨k=1∨k=3∨k=8∨k=9∨k=10:=by
 rw [cov] at h
 repeat' split at h
 all_goals first
  |omega
  |cases h
mutual
theorem gE_oc (cs:List C) (fs:List ByteArray):∀(g:G) (e:E),Oc g→cov e=true→Oc (gE cs fs g e)
 |g,.mk k o i nm a l,h,hc=>by
  have hk:=zM1 hc
  rw [gE]
  cases hcn:const (.mk k o i nm a l) with
  |some n=>exact h.em (.inl rfl) _ _ _ _
  |none=>
   dsimp only
   rcases hk with rfl|rfl|rfl|hk
   ·cases hcn
   ·exact h.em (.inr (.inl rfl)) _ _ _ _
   ·exact h.em (.inr (.inr (.inl rfl))) _ _ _ _
   ·have hl:=zEZ hc hk
    have hs:=zP6 cs fs g l h hl
    have h11:=gL_oc cs fs g 19 0 l h hl (.inl rfl)
    have h12:=gL_oc cs fs g 20 1 l h hl (.inr rfl)
    rw [if_neg (by omega),if_neg (by omega),if_neg (by omega),if_neg (by omega),if_neg (by omega),if_neg (by omega),if_neg (by omega)]
    split
    ·exact hs.em (by unfold okOp;omega) _ _ _ _
    split
    ·exact hs.em (by unfold okOp;omega) _ _ _ _
    split
    ·exact h11
    split
    ·exact h12
    ·exact hs.em (by unfold okOp;omega) _ _ _ _
theorem zP6 (cs:List C) (fs:List ByteArray):∀(g:G) (l:List E),Oc g→covs l=true→Oc (gEs cs fs g l)
 |g,[],h,_=>by rw [gEs];exact h
 |g,e::r,h,hc=>by
  rw [covs,Bool.and_eq_true] at hc
  rw [gEs]
  exact zP6 cs fs _ r (gE_oc cs fs g e h hc.1) hc.2
theorem gL_oc (cs:List C) (fs:List ByteArray):∀(g:G) (j v:Int) (l:List E),Oc g→covs l=true→(j=19∨j=20)→Oc (gL cs fs g j v l)
 |g,j,v,[],h,_,_=>by rw [gL];exact h
 |g,j,v,x::r,h,hc,hj=>by
  rw [covs,Bool.and_eq_true] at hc
  have h1:=(gE_oc cs fs g x h hc.1).em (o:=j) (by unfold okOp;omega) 0 0 1 0
  have h3:=zP6 cs fs _ r h1 hc.2
  rw [gL]
  have h4:=(h3.em (o:=17) (by unfold okOp;omega) 0 0 1 1).em (o:=18) (by unfold okOp;omega) 0 0 0 0
  have h5:Oc { (emit (emit (gEs cs fs (emit (gE cs fs g x) j 0 0 1 0) r) 17 0 0 1 1) 18 0 0 0 0) with depth:=(emit (emit (gEs cs fs (emit (gE cs fs g x) j 0 0 1 0) r) 17 0 0 1 1) 18 0 0 0 0).depth -1 }:=h4.same rfl
  exact((h5.patch _).em (o:=0) (by unfold okOp;omega) v 0 0 1).patch _
end
theorem gM_ops {cs:List C} {cl:C} {m:M} {e:E} {nm:ByteArray} {g:G} (hm:m.body= [.mk 6 nm [e] [] []]) (hc:cov e=true) (h:gM cs cl m=some g):∀x∈g.code,okOp x.1:=by
 unfold gM at h
 dsimp only at h
 split at h
 ·cases h
 ·injection h with h
  have h0:Oc ⟨[],[],vars0 m.params,m.params.length,0,0,false⟩:=fun x hx=>by cases hx
  have h1:=((gE_oc cs cl.fields _ (fold e) h0 (zFU e hc)).em (o:=22) (by unfold okOp;omega) 0 0 1 0).em (o:=25) (by unfold okOp;omega) 0 0 0 0
  have hg:g.code=(emit (emit (gE cs cl.fields ⟨[],[],vars0 m.params,m.params.length,0,0,false⟩ (fold e)) 22 0 0 1 0) 25 0 0 0 0).code:=by
   rw [←h,hm]
   unfold gB
   rw [gSs,gSs,gS,folds,folds]
   rfl
  intro x hx
  rw [hg] at hx
  exact h1 x.1 (List.mem_map.2 ⟨x,hx,rfl⟩)
mutual
theorem zJZ (d:Int) (hd:0≤d):∀(e:E) (n:Int),0≤leftE e n→leftE e (n+d)=leftE e n+d
 | .mk k o i nm a l,n,h=>by
   unfold leftE at h ⊢
   split
   ·rename_i h2
    rw [if_pos h2] at h
    omega
   ·rename_i h2
    rw [if_neg h2] at h
    rw [show n+d -1=n -1+d from by omega]
    exact zHQ d hd l (n -1) h
theorem zHQ (d:Int) (hd:0≤d):∀(l:List E) (n:Int),0≤leftEs l n→leftEs l (n+d)=leftEs l n+d
 | [],n,h=>by rw [leftEs,leftEs]
 |e::r,n,h=>by
  have h1:=zFB h
  rw [leftEs,if_neg (by omega),zJZ d hd e n h1.2.1,zHQ d hd r _ (by rw [←h1.2.2];exact h),←h1.2.2]
end
def xM (e:E):M:=⟨⟨#[109]⟩,[⟨#[97]⟩,⟨#[98]⟩],[.mk 6 ⟨#[]⟩ [e] [] []]⟩
def xC (e:E):C:=⟨⟨#[65]⟩,true,[],[xM e]⟩
def xCs (e:E):List C:= [xC e]
theorem x_few {e:E} (h:fewE e 80=true):fewP (xCs e) 150=true:=by
 have h1:0≤leftE e 80:=of_decide_eq_true h
 have h2:leftE e 145=leftE e 80+65:=zJZ 65 (by decide) e 80 h1
 have h3:leftS (.mk 6 ⟨#[]⟩ [e] [] []) 146=leftE e 145:=by
  unfold leftS
  rw [if_neg (by decide)]
  dsimp only
  rw [show leftEs [e] (146 -1)=leftE e 145 from by rw [leftEs,if_neg (by decide),leftEs];rfl]
  rw [leftSs,if_pos (show 0≤leftE e 145 from by omega),if_pos (show 0≤leftE e 145 from by omega),leftSs]
 have h4:leftCs (xCs e) 150=leftE e 145:=by
  unfold xCs
  rw [leftCs,if_neg (by decide),leftCs]
  unfold leftC
  rw [if_neg (show ¬40<(xC e).name.size from by show ¬40<1;decide)]
  show leftMs [xM e] (shortL [] (150 -1))=_
  rw [show shortL [] (150 -1)=149 from rfl,leftMs,if_neg (by decide),leftMs]
  unfold leftM
  rw [if_neg (show ¬40<(xM e).name.size from by show ¬40<1;decide)]
  dsimp only
  rw [show shortL (xM e).params (149 -1)=146 from by show shortL [⟨#[97]⟩,⟨#[98]⟩] (149 -1)=146;decide+kernel,if_pos (by decide)]
  show leftSs [.mk 6 ⟨#[]⟩ [e] [] []] 146=_
  rw [leftSs,if_neg (by decide),leftSs,h3]
 unfold fewP
 rw [h4]
 exact decide_eq_true (by omega)
theorem len0 {k o i:Int} {nm:ByteArray} {a:Bool} {l:List E} (h:validE (.mk k o i nm a l)=true) (hk:k=0∨k=1∨k=3):l= []:=by
 have h2:=(zF h).2
 unfold okE at h2
 rw [Bool.and_eq_true] at h2
 have h3:=h2.2
 rcases hk with rfl|rfl|rfl
 ·simp at h3
  exact h3.1
 ·simp at h3
  exact h3.1
 ·simp at h3
  exact h3.1
mutual
theorem zKA (cs:List C) (fs:List ByteArray) (t:Nat):∀e:E,validE e=true→cov e=true→Ck.faultE cs fs [⟨#[97]⟩,⟨#[98]⟩] e t=false
 | .mk k o i nm a l,hv,hc=>by
   have hk:=zM1 hc
   have hl:Ck.faultEs cs fs [⟨#[97]⟩,⟨#[98]⟩] l t=false:=by
    by_cases h0:k=0∨k=1∨k=3
    ·rw [len0 hv h0,Ck.faultEs]
    ·exact zH1 cs fs t l (zF hv).1 (zEZ hc (by omega))
   rw [Ck.faultE,hl,Bool.or_false]
   unfold Ck.ownE
   by_cases h3:k=3
   ·rw [if_pos h3]
    have hn:nm=⟨#[97]⟩∨nm=⟨#[98]⟩:=by
     rw [cov,if_neg (by omega),if_pos h3] at hc
     simpa using hc
    have hh:Ck.hasS [⟨#[97]⟩,⟨#[98]⟩] nm=true:=by rcases hn with rfl|rfl<;>decide+kernel
    rw [hh]
    simp
   ·rw [if_neg h3,if_neg (by omega),if_neg (by omega)]
theorem zH1 (cs:List C) (fs:List ByteArray) (t:Nat):∀l:List E,validEs l=true→covs l=true→Ck.faultEs cs fs [⟨#[97]⟩,⟨#[98]⟩] l t=false
 | [],_,_=>by rw [Ck.faultEs]
 |e::r,hv,hc=>by
  rw [covs,Bool.and_eq_true] at hc
  rw [validEs,Bool.and_eq_true] at hv
  rw [Ck.faultEs,zKA cs fs t e hv.1 hc.1,zH1 cs fs t r hv.2 hc.2]
  rfl
end
theorem zLX {e:E} (hv:validE e=true) (hc:cov e=true) (t:Nat):Ck.faultSs (xCs e) (xC e) (xM e).body (xM e).params t=false:=by
 show Ck.faultSs (xCs e) (xC e) [.mk 6 ⟨#[]⟩ [e] [] []] [⟨#[97]⟩,⟨#[98]⟩] t=false
 rw [Ck.faultSs,Ck.faultSs,Ck.faultS,Ck.faultSs,Ck.faultEs,Ck.faultEs,zKA _ _ t e hv hc]
 unfold Ck.ownS
 rfl
theorem zKN {e:E} (hv:validE e=true):validP (xCs e)=true∧validSs (xM e).body=true:=by
 have h1:validSs (xM e).body=true:=by
  show validSs [.mk 6 ⟨#[]⟩ [e] [] []]=true
  rw [validSs,validSs,validS,validEs,validEs,hv,validSs]
  show(true && true && okS 6 ⟨#[]⟩ 1 0 0 && true && true && true)=true
  decide+kernel
 refine⟨?_,h1⟩
 show validP [xC e]=true
 unfold validP
 rw [List.all_cons,List.all_nil,Bool.and_true]
 unfold validC
 show(clsB ⟨#[65]⟩ && List.all [] varB && (true||decide ([xM e].length=0)) && [xM e].all validM)=true
 rw [List.all_cons,List.all_nil,Bool.and_true]
 unfold validM
 rw [h1]
 show(clsB ⟨#[65]⟩ && List.all [] varB && (true||decide ([xM e].length=0)) && (varB ⟨#[109]⟩ && [⟨#[97]⟩,⟨#[98]⟩].all varB && true))=true
 rw [show clsB ⟨#[65]⟩=true from by decide+kernel,show(varB ⟨#[109]⟩ && [⟨#[97]⟩,⟨#[98]⟩].all varB)=true from by decide+kernel]
 rfl
theorem zTC {e:E} (hv:validE e=true) (hc:cov e=true):Ck.check (xCs e)= []:=by
 unfold Ck.check
 rw [if_pos (zKN hv).1]
 have hC:Ck.found (Ck.faultC (xCs e) 0 (xC e))= []:=by
  unfold Ck.found
  rw [List.filter_eq_nil_iff]
  intro t _
  unfold Ck.faultC
  rw [show Ck.classAt (xCs e) (xC e).name=some 0 from by unfold Ck.classAt xCs;rfl]
  rw [show decide ((xC e).name=Ck.weak)=false from by show decide ((⟨#[65]⟩:ByteArray)=Ck.weak)=false;decide+kernel]
  show ¬(((t == 0 && 0 == 60)||(t == 1 && decide (30<([]:List ByteArray).length∨30< [xM e].length))||(t == 2 && (decide ((some 0).getD 0<0)||false))||(t == 3 && Ck.twice []))=true)
  simp [Ck.twice]
 have hM:Ck.found (Ck.faultM (xCs e) (xC e) 0 (xM e))= []:=by
  unfold Ck.found
  rw [List.filter_eq_nil_iff]
  intro t _
  unfold Ck.faultM
  rw [zLX hv hc t,show Ck.methodAt (xC e).methods (xM e).name=some 0 from by unfold Ck.methodAt;rfl]
  rw [show Ck.twice (xM e).params=false from by show Ck.twice [⟨#[97]⟩,⟨#[98]⟩]=false;decide+kernel]
  rw [show Ck.lets (xM e).body=0 from by show Ck.lets [.mk 6 ⟨#[]⟩ [e] [] []]=0;rw [Ck.lets,Ck.lets,Ck.letsS,Ck.lets];rfl]
  show ¬((t == 4 && decide ((some 0).getD 0<0))||(t == 5 && decide (8<2∨30<2+0))||(t == 6 && false)||false)=true
  simp
 show(Ck.faultsC (xCs e) [xC e] 0).map _= []
 rw [Ck.faultsC,Ck.faultsC,hC]
 show List.map _ (List.map _ []++Ck.faultsM (xCs e) 0 (xC e) [xM e] 0++ [])= []
 rw [Ck.faultsM,Ck.faultsM,hM]
 rfl
end Co
namespace Cw
theorem vd_mk {o a b:Int} (h0:0≤o∧o<26) (ha:oLeast o≤a∧a≤oMost o) (hb:0≤b∧b≤oArgs o):Vd (o,a,b):=⟨h0,ha,hb⟩
theorem fin_vd {cs:List Tr.C} {fs:List ByteArray} {nn ln cl:Nat} {x:Co.Ins} (h:Co.Fin cs fs nn ln cl false x) (h1:nn≤1024) (h2:ln≤30) (h3:cl≤4000) (h4:fs.length≤30) (h5:cs.length≤60) (h6:∀c∈cs,c.fields.length≤30):Vd x:=by
 cases h with
 |push n a b=>exact vd_mk ⟨by decide,by decide⟩ ⟨a,b⟩ ⟨by decide,by decide⟩
 |flat o a=>rcases a with rfl|rfl|rfl|rfl|rfl|rfl|rfl|rfl|rfl|rfl<;>exact vd_mk ⟨by decide,by decide⟩ ⟨by decide,by decide⟩ ⟨by decide,by decide⟩
 |loc o n a b=>rcases a with rfl|rfl<;>exact vd_mk ⟨by decide,by decide⟩ ⟨show(0:Int)≤n by omega,show(n:Int)≤29 by omega⟩ ⟨by decide,by decide⟩
 |nam o n a b=>rcases a with rfl|rfl|rfl<;>exact vd_mk ⟨by decide,by decide⟩ ⟨show(0:Int)≤n by omega,show(n:Int)≤1023 by omega⟩ ⟨by decide,by decide⟩
 |snd n b a d e=>exact vd_mk ⟨by decide,by decide⟩ ⟨show(0:Int)≤n by omega,show(n:Int)≤1023 by omega⟩ ⟨d,e rfl⟩
 |own o n a b=>rcases a with rfl|rfl<;>exact vd_mk ⟨by decide,by decide⟩ ⟨show(0:Int)≤n by omega,show(n:Int)≤29 by omega⟩ ⟨by decide,by decide⟩
 |new o i c b a d e f=>
  have hi:=(List.getElem?_eq_some_iff.1 d).1
  have hc:=h6 c (List.mem_of_getElem? d)
  rcases a with rfl|rfl<;>exact vd_mk ⟨by decide,by decide⟩ ⟨show(1:Int)≤(i:Int)+1 by omega,show(i:Int)+1≤60 by omega⟩ ⟨e,show b≤30 by omega⟩
 |bin o a b=>exact vd_mk ⟨by decide,by decide⟩ ⟨a,b⟩ ⟨by decide,by decide⟩
 |jmp o n a b=>rcases a with rfl|rfl|rfl<;>exact vd_mk ⟨by decide,by decide⟩ ⟨show(0:Int)≤n by omega,show(n:Int)≤4000 by omega⟩ ⟨by decide,by decide⟩
theorem zMP {cs:List Tr.C} {c:Tr.C} {m:Tr.M} {g:Co.G} (h:Co.gM cs c m=some g):g.names.length≤1024∧g.code.length≤4000:=by
 unfold Co.gM at h
 dsimp only at h
 split at h
 ·cases h
 ·rename_i hb
  cases h
  omega
end Cw
end Go.Proofs.YtcnmfcgmnkncaaaGreatDoor
namespace Go.Proofs.YtcnmfcgmnkncaaaGreatDoor
namespace Cw
open Go.RowKit Go.Maps Pw
def At (cs:List Tr.C) (i k:Int) (c:Tr.C) (m:Tr.M):Prop:=0≤i∧0≤k∧cs[i.toNat]? =some c∧c.methods[k.toNat]? =some m
abbrev zM:Value:= .agg #[.string ⟨#[]⟩,.int .i64 0,.int .i64 0,.slice none 0 0,.slice none 0 0]
def MQ (cs:List Tr.C) (i k:Int) (w:World) (e:Ending) (w':World):Prop:=
 Below w.heap.size w w'∧((∃n r,Ck.check cs=n::r∧e= .returned (.tuple #[zM,.int .i64 (n:Nat)]))∨(Ck.check cs= []∧(∀c m,¬At cs i k c m)∧e= .returned (.tuple #[zM,.int .i64 2]))∨(Ck.check cs= []∧∃c m,At cs i k c m∧MP cs c m w e w'))
def RCM (cv nv:Value) (g:Co.G):World→Prop:=fun U=>SlI U cv g.code∧SlStr U nv g.names
theorem zSZ {cv nv:Value} {g:Co.G}:Mn (RCM cv nv g):=fun _ _ hi h=>⟨h.1.inc hi,h.2.inc hi⟩
theorem zME {cs:List Tr.C} {i k:Int} (h:i<0∨(cs.length:Int)≤i):∀c m,¬At cs i k c m:=fun c m h2=>by
 have:=(List.getElem?_eq_some_iff.1 h2.2.2.1).1
 have:=h2.1
 omega
theorem zJP {cs:List Tr.C} {i k:Int} {c:Tr.C} (hc:cs[i.toNat]? =some c) (h:k<0∨(c.methods.length:Int)≤k):∀c m,¬At cs i k c m:=fun c' m h2=>by
 have h3:=h2.2.2.1
 rw [hc] at h3
 cases h3
 have:=(List.getElem?_eq_some_iff.1 h2.2.2.2).1
 have:=h2.2.1
 omega
set_option maxRecDepth 100000 in
set_option maxHeartbeats 16000000 in
theorem zKM {cs:List Tr.C} {v:Value} {w:World} (i k:Int) (hp:SlC w v cs) (hE:CoEnv w) (hsm:Ck.Small cs) (hfit:Tr.fitP cs) (hsz:cs.length≤1000∧∀c∈cs,Co.SmC 1000 c):
 Calls Tryz.prog 25 #[.agg #[v],.int .i64 i,.int .i64 k] w (MQ cs i k w):=by
 have hp0:=hp
 obtain⟨pp,cp,rfl,hcl,_⟩:=hp
 obtain⟨CN,hCN⟩:∃q,cs.length=q:=⟨_,rfl⟩
 rw [hCN] at hp0 hcl ⊢
 have HP:=zh hp0
 have HN:=zh hCN
 have HE:=zh hE
 have HSM:=zh hsm
 have HFIT:=zh hfit
 have HSZ:=zh hsz.2
 have HCL:=zh hcl
 have C0:=zh (My.start w)
 clear hp0 hCN hE hsm hfit hsz hcl
 obtain⟨P,w1,HX1,HW1,hx1,C1⟩:=C0.out.boxE #[.slice pp CN cp] 24
 obtain⟨R,w2,HX2,HW2,hx2,C2⟩:=C1.out.boxE #[.string ⟨#[]⟩,.int .i64 0,.int .i64 0,.slice none 0 0,.slice none 0 0] 59
 have HY2:Hid (R=P+1):=zh (by rw [HX2.out,HW1.out,HX1.out];simp)
 go_enter Tryz.func25,Tryz.ntmps25
 go_upto_region 1 with fail
 rw [←HX1.out,←HW1.out,←HY2.out,←HW2.out]
 clear HX1 HW1 C0 HY2 HX2 HW2 C1
 have HRL:=zh (C2.out.lt 0 rfl).2
 have q1:=cells1 (C2.out.b 1 rfl)
 go_wp2_with fail
 clear q1
 refine(zKD _ cs _ (HE.out.keep C2.out.gr.fresh) (HP.out.keep C2.out.gr.fresh) HSM.out HFIT.out).mono ?_
 rintro e w3 ⟨v9,rfl,hown,hb⟩
 have C4:=zh (C2.out.below hb)
 clear C2
 clear hb
 obtain⟨pk,ck,hvk⟩:=own_form hown
 subst hvk
 cases hck:Ck.check cs with
 |nil=>
  have HCK:=zh hck
  have HVP:=zh (zG7 hck)
  clear hck hown
  rw [List.length_nil]
  by_cases hi0:i<0
  ·have q1:=cells1 (C4.out.b 1 rfl)
   have q0:=cells5 (C4.out.b 0 rfl)
   go_wp2_with fail
   clear q1 q0
   refine Mz.retM C4.out 0 rfl Tryz.results25 rfl rfl rfl (fun W9 h9=>⟨h9.gr.fresh,.inr (.inl ⟨HCK.out,zME (.inl hi0),rfl⟩)⟩)
  ·by_cases hi1:(CN:Int)≤i
   ·have q1:=cells1 (C4.out.b 1 rfl)
    have q0:=cells5 (C4.out.b 0 rfl)
    go_wp2_with fail
    clear q1 q0
    refine Mz.retM C4.out 0 rfl Tryz.results25 rfl rfl rfl (fun W9 h9=>⟨h9.gr.fresh,.inr (.inl ⟨HCK.out,zME (.inr (by rw [HN.out];exact hi1)),rfl⟩)⟩)
   ·obtain⟨I,rfl⟩:∃I:Nat,i=(I:Int):=⟨i.toNat,by omega⟩
    obtain⟨c,hc⟩:∃c,cs[I]? =some c:=⟨_,List.getElem?_eq_getElem (by rw [HN.out];omega)⟩
    have HC:Hid (cs[(I:Int).toNat]? =some c):=zh (by rw [Int.toNat_natCast];exact hc)
    obtain⟨b1,o1,vf,vm,hpe,hbl,⟨u0,u1,u2,u3⟩,_,hsf,hsm⟩:=HP.out.get hc
    subst hpe
    obtain⟨pf,cf,rfl,_,_⟩:=id hsf
    have hsm0:=hsm
    obtain⟨pm,cm,rfl,hml,_⟩:=hsm0
    obtain⟨FN,hFN⟩:∃q,c.fields.length=q:=⟨_,rfl⟩
    obtain⟨MN,hMN⟩:∃q,c.methods.length=q:=⟨_,rfl⟩
    rw [hFN] at u2 hsf
    rw [hMN] at u3 hsm hml
    have HSF:=zh hsf
    have HSMT:=zh hsm
    have HMN:=zh hMN
    have HFN:=zh hFN
    have HU:=zh (⟨u0,u1,u2,u3⟩:w.cell? ⟨b1,o1+I*4,none⟩=some (.string c.name)∧w.cell? ⟨b1,o1+I*4+1,none⟩=some (.bool c.actor)∧w.cell? ⟨b1,o1+I*4+2,none⟩=some (.slice pf FN cf)∧w.cell? ⟨b1,o1+I*4+3,none⟩=some (.slice pm MN cm))
    clear hc u0 u1 u2 u3 hsf hsm hMN hFN hi0
    have hi2:¬(I:Int)<0:=by omega
    have hi3:(I:Int)<(CN:Int):=by omega
    by_cases hk0:k<0
    ·have q1:=cells1 (C4.out.b 1 rfl)
     have q0:=cells5 (C4.out.b 0 rfl)
     go_wp2_with fail
     clear q1 q0
     refine Mz.retM C4.out 0 rfl Tryz.results25 rfl rfl rfl (fun W9 h9=>⟨h9.gr.fresh,.inr (.inl ⟨HCK.out,zJP HC.out (.inl hk0),rfl⟩)⟩)
    ·by_cases hk1:(MN:Int)≤k
     ·have x3:=zA C4.out.gr.fresh HU.out.2.2.2
      have q1:=cells1 (C4.out.b 1 rfl)
      have q0:=cells5 (C4.out.b 0 rfl)
      go_wp2_with fail
      clear q1 q0
      refine Mz.retM C4.out 0 rfl Tryz.results25 rfl rfl rfl (fun W9 h9=>⟨h9.gr.fresh,.inr (.inl ⟨HCK.out,zJP HC.out (.inr (by rw [HMN.out];exact hk1)),rfl⟩)⟩)
     ·obtain⟨J,rfl⟩:∃J:Nat,k=(J:Int):=⟨k.toNat,by omega⟩
      obtain⟨m,hm⟩:∃m,c.methods[J]? =some m:=⟨_,List.getElem?_eq_getElem (by rw [HMN.out];omega)⟩
      have HAT:Hid (At cs (I:Int) (J:Int) c m):=zh ⟨by omega,by omega,HC.out,by rw [Int.toNat_natCast];exact hm⟩
      obtain⟨b2,o2,vx,vy,hpe,hbl2,⟨t0,t1,t2⟩,hnm,hsx,hsy⟩:=HSMT.out.get hm
      subst hpe
      obtain⟨px,cx,rfl,_,_⟩:=id hsx
      obtain⟨py,cy,rfl,_⟩:=id hsy.form
      have HT:=zh (⟨t0,t1,t2⟩:w.cell? ⟨b2,o2+J*3,none⟩=some (.string m.name)∧w.cell? ⟨b2,o2+J*3+1,none⟩=some (.slice px m.params.length cx)∧w.cell? ⟨b2,o2+J*3+2,none⟩=some (.slice py m.body.length cy))
      have HSX:=zh hsx
      have HSY:=zh hsy
      have HNM:=zh hnm
      have HSC:=zh (HSZ.out c (List.mem_of_getElem? HC.out))
      have HVM:Hid (Tr.validSs m.body=true):=zh (by
       have h9:=HVP.out
       unfold Tr.validP at h9
       have h8:=List.all_eq_true.1 h9 c (List.mem_of_getElem? HC.out)
       unfold Tr.validC at h8
       rw [Bool.and_eq_true] at h8
       have h7:=List.all_eq_true.1 h8.2 m (List.mem_of_getElem? hm)
       unfold Tr.validM at h7
       rw [Bool.and_eq_true] at h7
       exact h7.2)
      have HWM:Hid (m.params.length+Co.wSs m.body+9≤900000):=zh (by have h9:=HSC.out.all m (List.mem_of_getElem? hm);have:=h9.w;have:=h9.ps;omega)
      clear hm t0 t1 t2 hsx hsy hnm hk0
      have hk2:¬(J:Int)<0:=by omega
      have hk3:(J:Int)<(MN:Int):=by omega
      have hk4:(0:Int)≤(J:Int):=by omega
      have hi4:(0:Int)≤(I:Int):=by omega
      have x3:=zA C4.out.gr.fresh HU.out.2.2.2
      have q1:=cells1 (C4.out.b 1 rfl)
      go_upto_region 6 with fail
      clear q1
      clear x3
      obtain⟨wd,HWD,CD⟩:=C4.out.drewE
      refine wp_region_held_drew (S:=fun W=>W.cell? ⟨P,0,none⟩=some (.slice (some ⟨b1,o1,none⟩) CN cp)∧W.cell? ⟨b1,o1+I*4,none⟩=some (.string c.name)∧W.cell? ⟨b1,o1+I*4+1,none⟩=some (.bool c.actor)∧W.cell? ⟨b1,o1+I*4+2,none⟩=some (.slice pf FN cf)∧W.cell? ⟨b1,o1+I*4+3,none⟩=some (.slice (some ⟨b2,o2,none⟩) MN cm)∧W.cell? ⟨b2,o2+J*3,none⟩=some (.string m.name)∧W.cell? ⟨b2,o2+J*3+1,none⟩=some (.slice px m.params.length cx)∧W.cell? ⟨b2,o2+J*3+2,none⟩=some (.slice py m.body.length cy)) (by kernel_rfl) (by rw [←HWD.out];exact⟨zB (CD.out.b 1 rfl) (j:=0) rfl,zA CD.out.gr.fresh HU.out.1,zA CD.out.gr.fresh HU.out.2.1,zA CD.out.gr.fresh HU.out.2.2.1,zA CD.out.gr.fresh HU.out.2.2.2,zA CD.out.gr.fresh HT.out.1,zA CD.out.gr.fresh HT.out.2.1,zA CD.out.gr.fresh HT.out.2.2⟩) (fun hHeld=>?_)
      rw [←HWD.out] at hHeld ⊢
      clear HWD C4
      refine rU 0 (some 43) ?_
      refine rU 1 (some 44) ?_
      refine rU 2 (some 45) ?_
      refine rU 3 (some 46) ?_
      refine rU 4 (some 47) ?_
      refine rU 5 (some 48) ?_
      refine rU 6 (some 49) ?_
      refine rU 7 (some 50) ?_
      refine rU 8 (some 51) ?_
      refine rU 9 (some 52) ?_
      refine rU 10 (some 53) ?_
      refine rU 11 (some 54) ?_
      refine rU 12 (some 55) ?_
      refine rU 13 (some 56) ?_
      refine rU 14 (some 57) ?_
      clear hHeld
      refine rR1 15 (some 58) (fun K hK=>?_)
      go_simp
      have hk:=method_any (w:=wd) (cs:=cs) (cl:=c) (m:=m) (HP.out.keep CD.out.gr.fresh) (fv:= .slice pf FN cf) (HSF.out.keep CD.out.gr.fresh) (mv:= .slice (some ⟨b2,o2,none⟩) MN cm) ⟨_,_,_,rfl⟩ (HSX.out.keep CD.out.gr.fresh) (HSY.out.keep CD.out.gr.fresh) HVM.out HNM.out HWM.out
      refine hk.mono ?_
      clear hk
      rintro e w6 ⟨hb9,hm9⟩
      cases hg:Co.gM cs c m
      ·rw [hg] at hm9
       subst hm9
       have C6:=zh (Mz.below CD.out hb9)
       clear hb9
       go_wp2_with fail
       refine hK.out _ _ ?_ (fun hHeld=>?_)
       ·exact⟨zB (C6.out.b 1 rfl) (j:=0) rfl,zA C6.out.gr.fresh HU.out.1,zA C6.out.gr.fresh HU.out.2.1,zA C6.out.gr.fresh HU.out.2.2.1,zA C6.out.gr.fresh HU.out.2.2.2,zA C6.out.gr.fresh HT.out.1,zA C6.out.gr.fresh HT.out.2.1,zA C6.out.gr.fresh HT.out.2.2⟩
       clear hK K
       try simp only [Act.put,q0,q1,q2]
       refine rU 16 (some 59) ?_
       refine rU 17 (some 60) ?_
       clear hHeld
       refine rR1 18 none (fun K hK=>?_)
       rw [if_pos (by rfl)]
       obtain⟨w7,HW,C7⟩:=C6.out.setRowE 0 rfl #[.string ⟨#[]⟩,.int .i64 0,.int .i64 0,.slice none 0 0,.slice none 0 0]
       dsimp only [List.set] at C7
       refine wp_store_row _ _ _ rfl R #[.string ⟨#[]⟩,.int .i64 0,.int .i64 0,.slice none 0 0,.slice none 0 0] rfl rfl 59 #[.string ⟨#[]⟩,.int .i64 0,.int .i64 0,.slice none 0 0,.slice none 0 0] (C6.out.b 0 rfl) (by kernel_rfl) rfl (by simp [Value.oneCell']) ?_
       rw [←HW.out]
       clear HW C6
       refine hK.out _ _ ?_ (fun hHeld=>?_)
       ·exact⟨zB (C7.out.b 1 rfl) (j:=0) rfl,zA C7.out.gr.fresh HU.out.1,zA C7.out.gr.fresh HU.out.2.1,zA C7.out.gr.fresh HU.out.2.2.1,zA C7.out.gr.fresh HU.out.2.2.2,zA C7.out.gr.fresh HT.out.1,zA C7.out.gr.fresh HT.out.2.1,zA C7.out.gr.fresh HT.out.2.2⟩
       clear hK K
       simp only [Act.put]
       refine rU 19 (some 7) ?_
       refine wpAnyH_done (by kernel_rfl) ?_ _
       clear hHeld
       go_wp2_with fail
       exact bodyPost_ret (v:= .tuple #[.agg #[.string ⟨#[]⟩,.int .i64 0,.int .i64 0,.slice none 0 0,.slice none 0 0],.int .i64 8]) (zAH Tryz.results25 _ _ R _ _ _ _ rfl (C7.out.b 0 rfl) Tryz.underlying59 rfl (by kernel_rfl)) rfl ⟨C7.out.gr.fresh,.inr (.inr ⟨HCK.out,c,m,HAT.out,zGI hg C7.out.gr.fresh⟩)⟩
      ·rename_i g
       rw [hg] at hm9
       obtain⟨cv,nv,rfl,hci,hni⟩:=hm9
       have hcf:=hci
       have hnf:=hni
       obtain⟨pc,cc,rfl,_⟩:=hcf.form
       obtain⟨pn,cn,rfl,_,_⟩:=hnf
       clear hcf
       have C6:=zh (Mz.add CD.out hb9 (r:=RCM (.slice pc g.code.length cc) (.slice pn g.names.length cn) g) zSZ ⟨hci,hni⟩)
       clear hb9
       go_wp2_with fail
       refine hK.out _ _ ?_ (fun hHeld=>?_)
       ·exact⟨zB (C6.out.b 1 rfl) (j:=0) rfl,zA C6.out.gr.fresh HU.out.1,zA C6.out.gr.fresh HU.out.2.1,zA C6.out.gr.fresh HU.out.2.2.1,zA C6.out.gr.fresh HU.out.2.2.2,zA C6.out.gr.fresh HT.out.1,zA C6.out.gr.fresh HT.out.2.1,zA C6.out.gr.fresh HT.out.2.2⟩
       clear hK K
       try simp only [Act.put,q0,q1,q2]
       refine rU 16 (some 59) ?_
       refine rU 17 (some 60) ?_
       clear hHeld
       refine rR1 18 none (fun K hK=>?_)
       rw [if_pos (by rfl)]
       obtain⟨w8,HW,C8⟩:=C6.out.setRowE 0 rfl #[.string m.name,.int .i64 m.params.length,.int .i64 g.locals,.slice pc g.code.length cc,.slice pn g.names.length cn]
       dsimp only [List.set] at C8
       refine wp_store_row _ _ _ rfl R #[.string m.name,.int .i64 m.params.length,.int .i64 g.locals,.slice pc g.code.length cc,.slice pn g.names.length cn] rfl rfl 59 #[.string ⟨#[]⟩,.int .i64 0,.int .i64 0,.slice none 0 0,.slice none 0 0] (C6.out.b 0 rfl) (by kernel_rfl) rfl (by simp [Value.oneCell']) ?_
       rw [←HW.out]
       clear HW C6
       refine hK.out _ _ ?_ (fun hHeld=>?_)
       ·exact⟨zB (C8.out.b 1 rfl) (j:=0) rfl,zA C8.out.gr.fresh HU.out.1,zA C8.out.gr.fresh HU.out.2.1,zA C8.out.gr.fresh HU.out.2.2.1,zA C8.out.gr.fresh HU.out.2.2.2,zA C8.out.gr.fresh HT.out.1,zA C8.out.gr.fresh HT.out.2.1,zA C8.out.gr.fresh HT.out.2.2⟩
       clear hK K
       simp only [Act.put]
       refine rU 19 (some 7) ?_
       refine wpAnyH_done (by kernel_rfl) ?_ _
       clear hHeld
       go_wp2_with fail
       exact bodyPost_ret (v:= .tuple #[.agg #[.string m.name,.int .i64 m.params.length,.int .i64 g.locals,.slice pc g.code.length cc,.slice pn g.names.length cn],.int .i64 0]) (zAH Tryz.results25 _ _ R _ _ _ _ rfl (C8.out.b 0 rfl) Tryz.underlying59 rfl (by kernel_rfl)) rfl ⟨C8.out.gr.fresh,.inr (.inr ⟨HCK.out,c,m,HAT.out,zPP hg rfl C8.out.gr.fresh (My.seen C8.out 0 rfl).1 (My.seen C8.out 0 rfl).2⟩)⟩
 |cons n r=>
  rw [hck] at hown
  have HCK:=zh hck
  obtain⟨gk,hgk,hRk,hk0⟩:∃g,pk=some ⟨g,0,none⟩∧R<g∧Hid (w3.cell? ⟨g,0,none⟩=some (.int .i64 (n:Nat))):=by
   rcases hown.2 with ⟨e,_⟩|⟨g,cap,cur,e,hbg,hg,hnc,_,_,ht⟩
   ·injection e with _ e _
    cases e
   ·injection e with e1 e2 e3
    refine⟨g,e1,Nat.lt_of_lt_of_le HRL.out hbg,zh (zB hg ?_)⟩
    have h9:(List.take ((n::r).length*1) cur.toList)[0]? =some (.int .i64 (n:Nat)):=by rw [ht];rfl
    rw [List.getElem?_take_of_lt (by simp),Array.getElem?_toList] at h9
    exact h9
  subst hgk
  obtain⟨KN,hKN⟩:∃q,(n::r).length=q:=⟨_,rfl⟩
  have hkp:(0:Int)<(KN:Int):=by rw [←hKN,List.length_cons];omega
  rw [hKN]
  have HKC:=hk0
  clear hck hown hKN hk0
  go_upto_region 3 with fail
  obtain⟨wd,HWD,CD⟩:=C4.out.drewE
  have HC0:Hid (wd.cell? ⟨gk,0,none⟩=some (.int .i64 (n:Nat))):=zh (by rw [HWD.out];exact HKC.out)
  have HNE:Hid (gk≠R):=zh (by omega)
  refine wp_region_held_drew (S:=fun W=>W.cell? ⟨gk,0,none⟩=some (.int .i64 (n:Nat))) (by kernel_rfl) (by rw [←HWD.out];exact HC0.out) (fun hHeld=>?_)
  rw [←HWD.out] at hHeld ⊢
  clear HWD C4
  refine rU 0 (some 14) ?_
  refine rU 1 (some 15) ?_
  refine rU 2 (some 16) ?_
  refine rU 3 (some 17) ?_
  clear hHeld
  refine rR1 4 none (fun K hK=>?_)
  rw [if_pos (by rfl)]
  obtain⟨w5,HW,C5⟩:=CD.out.setRowE 0 rfl #[.string ⟨#[]⟩,.int .i64 0,.int .i64 0,.slice none 0 0,.slice none 0 0]
  dsimp only [List.set] at C5
  refine wp_store_row _ _ _ rfl R #[.string ⟨#[]⟩,.int .i64 0,.int .i64 0,.slice none 0 0,.slice none 0 0] rfl rfl 59 #[.string ⟨#[]⟩,.int .i64 0,.int .i64 0,.slice none 0 0,.slice none 0 0] (CD.out.b 0 rfl) (by kernel_rfl) rfl (by simp [Value.oneCell']) ?_
  have HC1:Hid (w5.cell? ⟨gk,0,none⟩=some (.int .i64 (n:Nat))):=zh (by rw [HW.out,cell_setRow_other _ _ _ _ HNE.out];exact HC0.out)
  rw [←HW.out]
  clear HW CD
  refine hK.out _ _ HC1.out (fun hHeld=>?_)
  clear hK K
  simp only [Act.put]
  refine rU 5 (some 7) ?_
  refine wpAnyH_done (by kernel_rfl) ?_ _
  clear hHeld
  go_wp2_with fail
  exact bodyPost_ret (v:= .tuple #[.agg #[.string ⟨#[]⟩,.int .i64 0,.int .i64 0,.slice none 0 0,.slice none 0 0],.int .i64 (n:Nat)]) (zAH Tryz.results25 _ _ R _ _ _ _ rfl (C5.out.b 0 rfl) Tryz.underlying59 rfl (by kernel_rfl)) rfl ⟨C5.out.gr.fresh,.inl ⟨n,r,HCK.out,rfl⟩⟩
end Cw
end Go.Proofs.YtcnmfcgmnkncaaaGreatDoor
namespace Go.Proofs.YtcnmfcgmnkncaaaGreatDoor
namespace Co
open Tr
def Both (g h:G):Prop:=Ext g h∧Inv h
theorem Ext.same {g h:G} (e:h.code=g.code):Ext g h:=⟨[],by rw [e,List.append_nil]⟩
theorem Inv.same {g h:G} (hi:Inv g) (e:h.code=g.code) (e2:h.names=g.names):Inv h:=⟨by rw [e,e2];exact hi.use,by rw [e2];exact hi.nodup⟩
theorem Both.nm {g h:G} (b:Both g h) (s:ByteArray) {o:Int} (ho:named o=true) (y p q:Int):Both g (emit (name h s).1 o (name h s).2 y p q):=⟨b.1.trans ((Ext.name h s).trans (.emit ..)),b.2.named s ho _ _ _⟩
theorem zP3 {cs:List C} {c:C} {m:M} {g:G} (hv:validSs m.body=true) (h:gM cs c m=some g):g.locals=m.params.length+Ck.lets m.body:=by
 unfold gM at h
 dsimp only at h
 split at h
 ·cases h
 ·cases h
  exact zA1 cs c.fields _ _ hv
end Co
end Go.Proofs.YtcnmfcgmnkncaaaGreatDoor
