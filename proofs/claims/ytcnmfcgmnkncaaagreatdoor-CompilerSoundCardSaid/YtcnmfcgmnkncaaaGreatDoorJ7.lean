/-
  Several texts in one: CoExec, CoGen.
-/
import Derived.Test.YtcnmfcgmnkncaaaGreatDoorJ6
import Derived.Laws.AppendOwnNone
import Derived.WalkLawsBesides
import Derived.Deep.DeepCutAuto
import Derived.Deep.LoopGhost
namespace Go.Proofs.YtcnmfcgmnkncaaaGreatDoor
namespace Co
open Tr
def Kp (g h:G):Prop:=∀(i:Nat) (x:Ins),g.code[i]? =some x→h.code[i]? =some x
theorem Kp.refl (g:G):Kp g g:=fun _ _ h=>h
theorem Kp.trans {g h k:G} (a:Kp g h) (b:Kp h k):Kp g k:=fun i x hx=>b i x (a i x hx)
theorem Kp.len {g h:G} (a:Kp g h):g.code.length≤h.code.length:=by
 rcases Nat.lt_or_ge h.code.length g.code.length with hlt|hge
 ·have h1:=a h.code.length _ (List.getElem?_eq_getElem hlt)
  rw [List.getElem?_eq_none (Nat.le_refl _)] at h1
  cases h1
 ·exact hge
theorem Kp.emit (g:G) (o a b p q:Int):Kp g (emit g o a b p q):=fun i x hx=>by
 show(g.code++ [(o,a,b)])[i]? =some x
 rw [List.getElem?_append_left (List.getElem?_eq_some_iff.1 hx).1]
 exact hx
theorem zCZ (g:G) (i j:Nat) (h:i≠j):(patch g i).code[j]? =g.code[j]?:=by
 show(g.code.modify i _)[j]? =_
 rw [List.getElem?_modify]
 cases g.code[j]? with
 |none=>rfl
 |some x=>
  show some (if i=j then _ else x)=_
  rw [if_neg h]
theorem zMB (g:G) (i:Nat) {o a b:Int} (h:g.code[i]? =some (o,a,b)):(patch g i).code[i]? =some (o,(g.code.length:Int),b):=by
 show(g.code.modify i _)[i]? =_
 rw [List.getElem?_modify,h]
 show some (if i=i then _ else _)=_
 rw [if_pos rfl]
theorem zBC (g:G) (i:Nat):(patch g i).code.length=g.code.length:=List.length_modify ..
theorem zO (g:G) (o a b p q:Int):(emit g o a b p q).code.length=g.code.length+1:=by
 show(g.code++ [(o,a,b)]).length=_
 rw [List.length_append]
 rfl
theorem zAQ (g:G) (o a b p q:Int):(emit g o a b p q).code[g.code.length]? =some (o,a,b):=by
 show(g.code++ [(o,a,b)])[g.code.length]? =_
 rw [List.getElem?_append_right (Nat.le_refl _),Nat.sub_self]
 rfl
theorem Kp.patch {g h:G} (a:Kp g h) {i:Nat} (hi:g.code.length≤i):Kp g (patch h i):=fun j x hx=>by
 have:=(List.getElem?_eq_some_iff.1 hx).1
 rw [zCZ _ _ _ (by omega)]
 exact a j x hx
theorem Kp.same {g h:G} (e:h.code=g.code):Kp g h:=fun i x hx=>by rw [e];exact hx
theorem Kp.name (g:G) (s:ByteArray):Kp g (name g s).1:=by
 unfold Co.name
 split
 ·exact .refl g
 ·exact .same rfl
set_option maxHeartbeats 4000000 in
mutual
theorem zBU (cs:List C) (fs:List ByteArray):∀(g:G) (e:E),Kp g (gE cs fs g e)
 |g,.mk k o i nm a l=>by
  have hs:=zEJ cs fs g l
  have h11:=zP5 cs fs g 19 0 l
  have h12:=zP5 cs fs g 20 1 l
  rw [gE]
  repeat' split
  all_goals first
   |exact Kp.emit _ _ _ _ _ _
   |exact hs.trans (Kp.emit _ _ _ _ _ _)
   |exact hs.trans ((Kp.name _ _).trans (Kp.emit _ _ _ _ _ _))
   |exact h11
   |exact h12
theorem zEJ (cs:List C) (fs:List ByteArray):∀(g:G) (l:List E),Kp g (gEs cs fs g l)
 |g,[]=>by rw [gEs];exact .refl g
 |g,e::r=>by rw [gEs];exact(zBU cs fs g e).trans (zEJ cs fs _ r)
theorem zP5 (cs:List C) (fs:List ByteArray):∀(g:G) (j v:Int) (l:List E),Kp g (gL cs fs g j v l)
 |g,j,v,[]=>by rw [gL];exact .refl g
 |g,j,v,x::r=>by
  have h1:=zBU cs fs g x
  have h3:=zEJ cs fs (emit (gE cs fs g x) j 0 0 1 0) r
  rw [gL]
  have l1:=h1.len
  have h4:=(h1.trans (.emit _ j 0 0 1 0)).trans h3
  have l4:=h4.len
  have h5:=((h4.trans (.emit _ 17 0 0 1 1)).trans (.emit _ 18 0 0 0 0))
  generalize hg3:gEs cs fs (emit (gE cs fs g x) j 0 0 1 0) r=g3 at h3 h4 h5 l4 ⊢
  generalize hg4:emit (emit g3 17 0 0 1 1) 18 0 0 0 0=g4 at h5 ⊢
  have h6:Kp g (Co.patch { g4 with depth:=g4.depth -1 } (gE cs fs g x).code.length):=Kp.patch (Kp.trans (h:=g4) h5 (Kp.same (h:= { g4 with depth:=g4.depth -1 }) rfl)) l1
  exact(h6.trans (.emit _ 0 v 0 0 1)).patch (by rw [zO];omega)
end
set_option maxHeartbeats 4000000 in
mutual
theorem zDT (cs:List C) (fs:List ByteArray):∀(g:G) (e:E),(gE cs fs g e).vars=g.vars
 |g,.mk k o i nm a l=>by
  have hs:=gEs_vars cs fs g l
  have h11:=zP4 cs fs g 19 0 l
  have h12:=zP4 cs fs g 20 1 l
  have hn:(name (gEs cs fs g l) nm).1.vars=g.vars:=by
   unfold Co.name
   split<;>exact hs
  rw [gE]
  repeat' split
  all_goals first
   |rfl
   |exact hs
   |exact hn
   |exact h11
   |exact h12
theorem gEs_vars (cs:List C) (fs:List ByteArray):∀(g:G) (l:List E),(gEs cs fs g l).vars=g.vars
 |g,[]=>by rw [gEs]
 |g,e::r=>by rw [gEs,gEs_vars cs fs _ r,zDT cs fs g e]
theorem zP4 (cs:List C) (fs:List ByteArray):∀(g:G) (j v:Int) (l:List E),(gL cs fs g j v l).vars=g.vars
 |g,j,v,[]=>by rw [gL]
 |g,j,v,x::r=>by
  rw [gL]
  show(gEs cs fs (emit (gE cs fs g x) j 0 0 1 0) r).vars=g.vars
  rw [gEs_vars cs fs _ r]
  exact zDT cs fs g x
end
theorem zDA {g h:G} (e:h.vars=g.vars) (s:ByteArray):zA0 h s=zA0 g s:=by unfold zA0;rw [e]
def Has (c:List Ins) (n:Nat) (h:G):Prop:=∀(i:Nat) (x:Ins),n≤i→h.code[i]? =some x→c[i]? =some x
theorem Has.of {c:List Ins} {n:Nat} {h k:G} (a:Has c n k) (b:Kp h k):Has c n h:=fun i x hi hx=>a i x hi (b i x hx)
structure Out (et er:Nat) (a b:Val) (c:List Ins) (p p':Nat) (r:Res):Prop where
 ok:r.2.1=0→∃k,p+k≤p'∧∀st,Goes et er a b c k p st p' (r.1::st)
 bad:r.2.1≠0→∃k,p+k≤p'∧∀f st,run et er a b c (f+k) p st=(none,r.2.1,true)
section
variable {et er:Nat} {a b:Val} {c:List Ins}
theorem zLD {o:Int} {u v:Val} (h:(operate et er o u v).2≠0):(operate et er o u v).1=none:=by
 unfold operate at h ⊢
 repeat' split
 all_goals first
  |rfl
  |(exfalso;simp_all)
set_option maxHeartbeats 2000000 in
theorem zBV:∀e:E,validE e=true→cov e=true→(eval et er a b e).2.2=true∧((eval et er a b e).2.1≠0→(eval et er a b e).1=none)
 | .mk k o i nm at_ l,hv,hc=>by
   have hvl:=(zF hv).1
   have hok:=(zF hv).2
   rw [eval]
   unfold node
   split
   ·exact⟨rfl,fun h=>absurd rfl h⟩
   ·split
    ·exact⟨rfl,fun h=>absurd rfl h⟩
    ·split
     ·rw [cov,if_neg (by omega),if_pos ‹_›,Bool.or_eq_true] at hc
      split
      ·exact⟨rfl,fun h=>absurd rfl h⟩
      ·rename_i hn
       rcases hc with hc|hc
       ·exact absurd (of_decide_eq_true hc) hn
       ·exact⟨hc,fun h=>absurd rfl h⟩
     ·have hk:k=8∨k=9∨k=10:=by
       rw [cov,if_neg (by omega),if_neg ‹_›] at hc
       split at hc
       ·assumption
       ·cases hc
      have hcl:=zEZ hc hk
      cases l with
      |nil=>
       exfalso
       unfold okE at hok
       rcases hk with rfl|rfl|rfl<;>simp at hok
      |cons x r=>
       rw [validEs,Bool.and_eq_true] at hvl
       rw [covs,Bool.and_eq_true] at hcl
       have hx:=zBV x hvl.1 hcl.1
       rw [evals]
       dsimp only
       split
       ·unfold neg1
        split
        ·exact⟨hx.1,fun _=>rfl⟩
        ·split
         ·exact⟨rfl,fun h=>absurd rfl h⟩
         ·exact⟨rfl,fun _=>rfl⟩
       ·split
        ·unfold not1
         split
         ·exact⟨hx.1,fun _=>rfl⟩
         ·exact⟨rfl,fun h=>absurd rfl h⟩
        ·have h10:k=10:=by omega
         subst h10
         obtain⟨⟨x',y',hl⟩,_,_⟩:=zI0 hv
         injection hl with hl1 hl2
         subst hl1
         subst hl2
         rw [validEs,Bool.and_eq_true] at hvl
         rw [covs,Bool.and_eq_true] at hcl
         have hy:=zBV y' hvl.2.1 hcl.2.1
         rw [if_pos rfl,evals]
         dsimp only
         unfold bin2
         rw [if_neg (by rw [hx.1,hcl.2.1];simp)]
         split
         ·exact⟨rfl,fun _=>rfl⟩
         ·split
          ·exact⟨rfl,fun h=>absurd rfl h⟩
          ·split
           ·exact⟨hy.1,fun _=>rfl⟩
           ·split
            ·exact⟨rfl,fun h=>absurd rfl h⟩
            ·exact⟨rfl,fun h=>zLD h⟩
theorem zFM {p:Nat} {v:Val} (h:∀f st,run et er a b c (f+1) p st=run et er a b c f (p+1) (v::st)):Out et er a b c p (p+1) (v,0,true):=
 ⟨fun _=>⟨1,Nat.le_refl _,fun st f=>h f st⟩,fun h=>absurd rfl h⟩
theorem Out.neg {p q:Nat} {x:Res} {y:Int × Int} (het:et≠0) (h:Out et er a b c p q x) (hok:x.2.2=true) (hx:c[q]? =some (14,y)):Out et er a b c p (q+1) (neg1 et x):=by
 obtain⟨v,f,t⟩:=x
 have ht:t=true:=hok
 subst ht
 unfold neg1
 dsimp only
 by_cases hf:f=0
 ·subst hf
  rw [if_neg (by simp)]
  obtain⟨k,hk,hg⟩:=h.ok rfl
  cases v with
  |some n=>exact ⟨fun _=>⟨1+k,by omega,fun st=>(hg st).trans (fun f=>by rw [run,hx];rfl)⟩,fun h=>absurd rfl h⟩
  |none=>exact ⟨fun h=>absurd h het,fun _=>⟨1+k,by omega,fun f st=>by rw [←Nat.add_assoc,hg st,run,hx];rfl⟩⟩
 ·rw [if_pos (.inl hf)]
  obtain⟨k,hk,hg⟩:=h.bad hf
  exact⟨fun h=>absurd h hf,fun _=>⟨k,by omega,hg⟩⟩
theorem Out.not {p q:Nat} {x:Res} {y:Int × Int} (h:Out et er a b c p q x) (hok:x.2.2=true) (hx:c[q]? =some (15,y)):Out et er a b c p (q+1) (not1 x):=by
 obtain⟨v,f,t⟩:=x
 have ht:t=true:=hok
 subst ht
 unfold not1
 dsimp only
 by_cases hf:f=0
 ·subst hf
  rw [if_neg (by simp)]
  obtain⟨k,hk,hg⟩:=h.ok rfl
  exact⟨fun _=>⟨1+k,by omega,fun st=>(hg st).trans (fun f=>by rw [run,hx];rfl)⟩,fun h=>absurd rfl h⟩
 ·rw [if_pos (.inl hf)]
  obtain⟨k,hk,hg⟩:=h.bad hf
  exact⟨fun h=>absurd h hf,fun _=>⟨k,by omega,hg⟩⟩
theorem Out.bin {p q r:Nat} {x y:Res} {o z:Int} (ho:0≤o∧o≤10) (h1:Out et er a b c p q x) (k1:x.2.2=true) (h2:Out et er a b c q r y) (k2:y.2.2=true) (hx:c[r]? =some (16,o,z)):Out et er a b c p (r+1) (bin2 et er o x true y):=by
 obtain⟨v,f,t⟩:=x
 obtain⟨u,f2,t2⟩:=y
 have ht:t=true:=k1
 have ht2:t2=true:=k2
 subst ht ht2
 unfold bin2
 dsimp only
 rw [if_neg (by simp)]
 by_cases hf:f=0
 ·subst hf
  rw [if_neg (by simp),if_neg (by omega)]
  obtain⟨k,hk,hg⟩:=h1.ok rfl
  by_cases hf2:f2=0
  ·subst hf2
   rw [if_neg (by simp),if_neg (by omega)]
   obtain⟨k',hk',hg'⟩:=h2.ok rfl
   have hs:∀f st,run et er a b c (f+(1+(k'+k))) p st=if (operate et er o v u).2=0 then run et er a b c f (r+1) ((operate et er o v u).1::st) else(none,(operate et er o v u).2,true):=fun f st=>by
    rw [←Nat.add_assoc,←Nat.add_assoc,hg st,hg' _,run,hx]
    rfl
   refine⟨fun h=>⟨1+(k'+k),by omega,fun st f=>?_⟩,fun h=>⟨1+(k'+k),by omega,fun f st=>?_⟩⟩
   ·rw [hs,if_pos h]
   ·rw [hs,if_neg h]
  ·rw [if_pos (.inl hf2)]
   obtain⟨k',hk',hg'⟩:=h2.bad hf2
   exact⟨fun h=>absurd h hf2,fun _=>⟨k'+k,by omega,fun f st=>by rw [←Nat.add_assoc,hg st,hg']⟩⟩
 ·rw [if_pos hf]
  obtain⟨k,hk,hg⟩:=h1.bad hf
  refine⟨fun h=>absurd h hf,fun _=>⟨k,?_,hg⟩⟩
  by_cases hf2:f2=0
  ·obtain⟨k',hk',hg'⟩:=h2.ok hf2
   omega
  ·obtain⟨k',hk',hg'⟩:=h2.bad hf2
   omega
theorem Out.logic {p q r:Nat} {x y:Res} {o j e z z2 z3 z4:Int} (ho:o=11∧j=19∧e=0∨o=12∧j=20∧e=1) (h1:Out et er a b c p q x) (k1:x.2.2=true) (h2:Out et er a b c (q+1) r y) (k2:y.2.2=true)
 (x1:c[q]? =some (j,((r+2:Nat):Int),z)) (x2:c[r]? =some (17,z2,z3)) (x3:c[r+1]? =some (18,((r+3:Nat):Int),z4)) (x4:c[r+2]? =some (0,e,z)):Out et er a b c p (r+3) (bin2 et er o x true y):=by
 obtain⟨v,f,t⟩:=x
 obtain⟨u,f2,t2⟩:=y
 have ht:t=true:=k1
 have ht2:t2=true:=k2
 subst ht ht2
 unfold bin2
 dsimp only
 rw [if_neg (by simp)]
 by_cases hf:f=0
 ·subst hf
  rw [if_neg (by simp)]
  obtain⟨k,hk,hg⟩:=h1.ok rfl
  have hqr:q+1≤r:=by
   by_cases hf2:f2=0
   ·obtain⟨k',hk',hg'⟩:=h2.ok hf2
    omega
   ·obtain⟨k',hk',hg'⟩:=h2.bad hf2
    omega
  have hj:∀f st,run et er a b c (f+1) q (v::st)=if truth v=decide (j=20) then run et er a b c f (r+2) st else run et er a b c f (q+1) st:=fun f st=>by
   rw [run,x1]
   rcases ho with ⟨_,rfl,_⟩|⟨_,rfl,_⟩
   ·show(if truth v=decide ((19:Int)=20) then(if ((r+2:Nat):Int)<0 then _ else _) else _)=_
    rw [if_neg (show ¬((r+2:Nat):Int)<0 by omega),Int.toNat_natCast]
   ·show(if truth v=decide ((20:Int)=20) then(if ((r+2:Nat):Int)<0 then _ else _) else _)=_
    rw [if_neg (show ¬((r+2:Nat):Int)<0 by omega),Int.toNat_natCast]
  by_cases hs:(o=11∧truth v=false)∨(o=12∧truth v=true)
  ·rw [if_pos hs]
   have hb:truth v=decide (j=20)∧bit (truth v)=e:=by
    rcases ho with ⟨rfl,rfl,rfl⟩|⟨rfl,rfl,rfl⟩
    ·rcases hs with ⟨_,h⟩|⟨h,_⟩
     ·rw [h];exact⟨rfl,rfl⟩
     ·cases h
    ·rcases hs with ⟨h,_⟩|⟨_,h⟩
     ·cases h
     ·rw [h];exact⟨rfl,rfl⟩
   refine⟨fun _=>⟨2+k,by omega,fun st f=>?_⟩,fun h=>absurd rfl h⟩
   rw [←Nat.add_assoc,hg st,hj (f+1),if_pos hb.1,Goes.push st x4,hb.2]
  ·rw [if_neg hs]
   have hb:¬truth v=decide (j=20):=by
    intro h
    rcases ho with ⟨rfl,rfl,rfl⟩|⟨rfl,rfl,rfl⟩
    ·exact hs (.inl ⟨rfl,h⟩)
    ·exact hs (.inr ⟨rfl,h⟩)
   by_cases hf2:f2=0
   ·subst hf2
    rw [if_neg (by simp),if_pos (by rcases ho with h|h;exact .inl h.1;exact .inr h.1)]
    obtain⟨k',hk',hg'⟩:=h2.ok rfl
    refine⟨fun _=>⟨2+(k'+(1+k)),by omega,fun st f=>?_⟩,fun h=>absurd rfl h⟩
    rw [←Nat.add_assoc,←Nat.add_assoc,←Nat.add_assoc,hg st,hj,if_neg hb,hg' st,run,x2]
    show run et er a b c (f+1) (r+1) (some (bit (truth u))::st)=_
    rw [run,x3]
    show(if ((r+3:Nat):Int)<0 then((none,0,false):Res) else run et er a b c f ((r+3:Nat):Int).toNat (some (bit (truth u))::st))=_
    rw [if_neg (show ¬((r+3:Nat):Int)<0 by omega),Int.toNat_natCast]
   ·rw [if_pos (.inl hf2)]
    obtain⟨k',hk',hg'⟩:=h2.bad hf2
    refine⟨fun h=>absurd h hf2,fun _=>⟨k'+(1+k),by omega,fun f st=>?_⟩⟩
    rw [←Nat.add_assoc,←Nat.add_assoc,hg st,hj,if_neg hb,hg']
 ·rw [if_pos hf]
  obtain⟨k,hk,hg⟩:=h1.bad hf
  refine⟨fun h=>absurd h hf,fun _=>⟨k,?_,hg⟩⟩
  by_cases hf2:f2=0
  ·obtain⟨k',hk',hg'⟩:=h2.ok hf2
   omega
  ·obtain⟨k',hk',hg'⟩:=h2.bad hf2
   omega
theorem gL_at (cs:List C) (fs:List ByteArray) (g:G) (j v:Int) (x y:E):
 (gL cs fs g j v [x,y]).code.length=(gE cs fs (emit (gE cs fs g x) j 0 0 1 0) y).code.length+3∧
 (∀(i:Nat) (z:Ins),(gE cs fs g x).code[i]? =some z→(gL cs fs g j v [x,y]).code[i]? =some z)∧
 (∀(i:Nat) (z:Ins),(emit (gE cs fs g x) j 0 0 1 0).code.length≤i→(gE cs fs (emit (gE cs fs g x) j 0 0 1 0) y).code[i]? =some z→(gL cs fs g j v [x,y]).code[i]? =some z)∧
 (gL cs fs g j v [x,y]).code[(gE cs fs g x).code.length]? =some (j,(((gE cs fs (emit (gE cs fs g x) j 0 0 1 0) y).code.length+2:Nat):Int),0)∧
 (gL cs fs g j v [x,y]).code[(gE cs fs (emit (gE cs fs g x) j 0 0 1 0) y).code.length]? =some (17,0,0)∧
 (gL cs fs g j v [x,y]).code[(gE cs fs (emit (gE cs fs g x) j 0 0 1 0) y).code.length+1]? =some (18,(((gE cs fs (emit (gE cs fs g x) j 0 0 1 0) y).code.length+3:Nat):Int),0)∧
 (gL cs fs g j v [x,y]).code[(gE cs fs (emit (gE cs fs g x) j 0 0 1 0) y).code.length+2]? =some (0,v,0):=by
 have hk:=zBU cs fs (emit (gE cs fs g x) j 0 0 1 0) y
 have he:gL cs fs g j v [x,y]=Co.patch (emit (Co.patch { (emit (emit (gE cs fs (emit (gE cs fs g x) j 0 0 1 0) y) 17 0 0 1 1) 18 0 0 0 0) with depth:=(emit (emit (gE cs fs (emit (gE cs fs g x) j 0 0 1 0) y) 17 0 0 1 1) 18 0 0 0 0).depth -1 } (gE cs fs g x).code.length) 0 v 0 0 1) (emit (gE cs fs (emit (gE cs fs g x) j 0 0 1 0) y) 17 0 0 1 1).code.length:=by
  rw [gL,gEs,gEs]
 rw [he]
 have hj:=zAQ (gE cs fs g x) j 0 0 1 0
 have hl:=zO (gE cs fs g x) j 0 0 1 0
 generalize hg2:emit (gE cs fs g x) j 0 0 1 0=g2 at hk hj hl ⊢
 have hk1:Kp (gE cs fs g x) g2:=by rw [←hg2];exact Kp.emit _ _ _ _ _ _
 generalize gE cs fs g x=g1 at hj hl hk1 ⊢
 generalize gE cs fs g2 y=g3 at hk ⊢
 have hlt:=hk.len
 have l4:=zO g3 17 0 0 1 1
 have a4:=zAQ g3 17 0 0 1 1
 have k4:=Kp.emit g3 17 0 0 1 1
 generalize emit g3 17 0 0 1 1=g4 at l4 a4 k4 ⊢
 have l5:=zO g4 18 0 0 0 0
 have a5:=zAQ g4 18 0 0 0 0
 have k5:=Kp.emit g4 18 0 0 0 0
 generalize emit g4 18 0 0 0 0=g5 at l5 a5 k5 ⊢
 have k6:Kp g5 ({ g5 with depth:=g5.depth -1 }:G):= .same rfl
 have l6:({ g5 with depth:=g5.depth -1 }:G).code.length=g5.code.length:=rfl
 generalize ({ g5 with depth:=g5.depth -1 }:G)=g6 at k6 l6 ⊢
 have l7:=zBC g6 g1.code.length
 have a7:=zMB g6 g1.code.length (o:=j) (a:=0) (b:=0) (k6 _ _ (k5 _ _ (k4 _ _ (hk _ _ hj))))
 have o7:=zCZ g6 g1.code.length
 generalize Co.patch g6 g1.code.length=g7 at l7 a7 o7 ⊢
 have l8:=zO g7 0 v 0 0 1
 have a8:=zAQ g7 0 v 0 0 1
 have k8:=Kp.emit g7 0 v 0 0 1
 generalize emit g7 0 v 0 0 1=g8 at l8 a8 k8 ⊢
 have l9:=zBC g8 g4.code.length
 have a9:=zMB g8 g4.code.length (o:=18) (a:=0) (b:=0) (k8 _ _ (by rw [o7 _ (by omega)];exact k6 _ _ a5))
 have o9:=zCZ g8 g4.code.length
 generalize Co.patch g8 g4.code.length=g9 at l9 a9 o9 ⊢
 refine⟨by omega,fun i z hz=>?_,fun i z hi hz=>?_,?_,?_,?_,?_⟩
 ·have:=(List.getElem?_eq_some_iff.1 hz).1
  rw [o9 _ (by omega)]
  refine k8 _ _ ?_
  rw [o7 _ (by omega)]
  exact k6 _ _ (k5 _ _ (k4 _ _ (hk _ _ (hk1 _ _ hz))))
 ·have:=(List.getElem?_eq_some_iff.1 hz).1
  rw [o9 _ (by omega)]
  refine k8 _ _ ?_
  rw [o7 _ (by omega)]
  exact k6 _ _ (k5 _ _ (k4 _ _ hz))
 ·rw [o9 _ (by omega)]
  refine k8 _ _ ?_
  rw [a7,show g6.code.length=g3.code.length+2 by omega]
 ·rw [o9 _ (by omega)]
  refine k8 _ _ ?_
  rw [o7 _ (by omega)]
  exact k6 _ _ (k5 _ _ a4)
 ·rw [show g3.code.length+1=g4.code.length by omega,a9,show g8.code.length=g3.code.length+3 by omega]
 ·rw [o9 _ (by omega),show g3.code.length+2=g7.code.length by omega]
  exact a8
set_option maxHeartbeats 4000000 in
theorem zDU (cs:List C) (fs:List ByteArray) (het:et≠0):∀(e:E) (g:G),validE e=true→cov e=true→zA0 g ⟨#[97]⟩=0→zA0 g ⟨#[98]⟩=1→Has c g.code.length (gE cs fs g e)→
 Out et er a b c g.code.length (gE cs fs g e).code.length (eval et er a b e)
 | .mk k o i nm at_ l,g,hv,hc,ha,hb,hh=>by
   have hvl:=(zF hv).1
   have hok:=(zF hv).2
   cases hcn:const (.mk k o i nm at_ l) with
   |some n=>
    rw [zEV hv hcn]
    rw [gE,hcn] at hh ⊢
    rw [zO]
    exact zFM (fun f st=>Goes.push st (hh _ _ (Nat.le_refl _) (zAQ ..)) f)
   |none=>
    have h0:k≠0:=by
     intro h
     unfold const at hcn
     dsimp only at hcn
     rw [if_pos h] at hcn
     cases hcn
    rw [gE,hcn] at hh ⊢
    dsimp only at hh ⊢
    by_cases h1:k=1
    ·rw [if_pos h1] at hh ⊢
     rw [zO,eval]
     unfold node
     rw [if_neg h0,if_pos h1]
     have hx:=hh _ _ (Nat.le_refl _) (zAQ ..)
     exact zFM (fun f st=>by rw [run,hx];rfl)
    ·by_cases h3:k=3
     ·rw [if_neg h1,if_neg (by omega),if_pos h3] at hh ⊢
      rw [zO,eval]
      unfold node
      rw [if_neg h0,if_neg h1,if_pos h3]
      have hx:=hh _ _ (Nat.le_refl _) (zAQ ..)
      by_cases hn:nm=⟨#[97]⟩
      ·rw [if_pos hn]
       rw [hn,ha] at hx
       exact zFM (fun f st=>by rw [run,hx];rfl)
      ·rw [if_neg hn]
       have hn2:nm=⟨#[98]⟩:=by
        rw [cov,if_neg (by omega),if_pos h3,Bool.or_eq_true] at hc
        rcases hc with hc|hc
        ·exact absurd (of_decide_eq_true hc) hn
        ·exact of_decide_eq_true hc
       rw [decide_eq_true hn2]
       rw [hn2,hb] at hx
       exact zFM (fun f st=>by rw [run,hx];rfl)
     ·have hk:k=8∨k=9∨k=10:=by
       rw [cov,if_neg (by omega),if_neg h3] at hc
       split at hc
       ·assumption
       ·cases hc
      have hcl:=zEZ hc hk
      cases l with
      |nil=>
       exfalso
       unfold okE at hok
       rcases hk with rfl|rfl|rfl<;>simp at hok
      |cons x r=>
       rw [validEs,Bool.and_eq_true] at hvl
       rw [covs,Bool.and_eq_true] at hcl
       rw [if_neg h1,if_neg (by omega),if_neg h3,if_neg (by omega),if_neg (by omega),if_neg (by omega),if_neg (by omega)] at hh ⊢
       have hex:=zBV (et:=et) (er:=er) (a:=a) (b:=b) x hvl.1 hcl.1
       rw [eval]
       unfold node
       rw [if_neg h0,if_neg h1,if_neg h3,evals]
       dsimp only
       rcases hk with rfl|rfl|rfl
       ·have hr:r= []:=by
         unfold okE at hok
         simp at hok
         simp_all
        subst hr
        rw [if_pos rfl] at hh ⊢
        rw [if_pos rfl]
        rw [gEs,gEs] at hh ⊢
        rw [zO]
        refine(zDU cs fs het x g hvl.1 hcl.1 ha hb (hh.of (Kp.emit _ _ _ _ _ _))).neg het hex.1 (hh _ _ (zBU cs fs g x).len (zAQ ..))
       ·have hr:r= []:=by
         unfold okE at hok
         simp at hok
         simp_all
        subst hr
        rw [if_neg (by decide),if_pos rfl] at hh ⊢
        rw [if_neg (by decide),if_pos rfl]
        rw [gEs,gEs] at hh ⊢
        rw [zO]
        refine(zDU cs fs het x g hvl.1 hcl.1 ha hb (hh.of (Kp.emit _ _ _ _ _ _))).not hex.1 (hh _ _ (zBU cs fs g x).len (zAQ ..))
       ·obtain⟨⟨x',y,hl⟩,ho0,ho1⟩:=zI0 hv
        injection hl with hl1 hl2
        subst hl1
        subst hl2
        rw [validEs,Bool.and_eq_true] at hvl
        rw [covs,Bool.and_eq_true] at hcl
        have hey:=zBV (et:=et) (er:=er) (a:=a) (b:=b) y hvl.2.1 hcl.2.1
        rw [if_neg (show ¬(10:Int)=8 by decide),if_neg (show ¬(10:Int)=9 by decide)] at hh ⊢
        rw [if_neg (show ¬(10:Int)=8 by decide),if_neg (show ¬(10:Int)=9 by decide),if_pos rfl,evals]
        dsimp only
        rw [hcl.2.1]
        have hkx:=zBU cs fs g x
        have hlog:∀(j v:Int),(o=11∧j=19∧v=0∨o=12∧j=20∧v=1)→Has c g.code.length (gL cs fs g j v [x,y])→Out et er a b c g.code.length (gL cs fs g j v [x,y]).code.length (bin2 et er o (eval et er a b x) true (eval et er a b y)):=fun j v hjv hh=>by
         obtain⟨e1,e2,e3,e4,e5,e6,e7⟩:=gL_at cs fs g j v x y
         have hky:=zBU cs fs (emit (gE cs fs g x) j 0 0 1 0) y
         have l1:=hkx.len
         have l2:=hky.len
         have l3:=zO (gE cs fs g x) j 0 0 1 0
         rw [e1]
         have hv2:(emit (gE cs fs g x) j 0 0 1 0).vars=g.vars:=zDT cs fs g x
         have r2:=zDU cs fs het y (emit (gE cs fs g x) j 0 0 1 0) hvl.2.1 hcl.2.1 (by rw [zDA hv2];exact ha) (by rw [zDA hv2];exact hb) (fun i z hi hz=>hh i z (by omega) (e3 i z hi hz))
         rw [l3] at r2
         exact Out.logic hjv (zDU cs fs het x g hvl.1 hcl.1 ha hb (fun i z hi hz=>hh i z hi (e2 i z hz))) hex.1 r2 hey.1 (hh _ _ (by omega) e4) (hh _ _ (by omega) e5) (hh _ _ (by omega) e6) (hh _ _ (by omega) e7)
        by_cases h11:o=11
        ·rw [if_pos h11] at hh ⊢
         exact hlog 19 0 (.inl ⟨h11,rfl,rfl⟩) hh
        ·by_cases h12:o=12
         ·rw [if_neg h11,if_pos h12] at hh ⊢
          exact hlog 20 1 (.inr ⟨h12,rfl,rfl⟩) hh
         ·rw [if_neg h11,if_neg h12] at hh ⊢
          rw [gEs,gEs,gEs] at hh ⊢
          rw [zO]
          have hky:=zBU cs fs (gE cs fs g x) y
          have hv2:=zDT cs fs g x
          refine Out.bin ⟨ho0,by omega⟩ (zDU cs fs het x g hvl.1 hcl.1 ha hb (hh.of (hky.trans (Kp.emit _ _ _ _ _ _)))) hex.1 (zDU cs fs het y (gE cs fs g x) hvl.2.1 hcl.2.1 (by rw [zDA hv2];exact ha) (by rw [zDA hv2];exact hb) (fun i z hi hz=>hh i z (Nat.le_trans hkx.len hi) (Kp.emit _ _ _ _ _ _ i z hz))) hey.1 (hh _ _ (Nat.le_trans hkx.len hky.len) (zAQ ..))
theorem zT3 {cs:List C} {cl:C} {m:M} {e:E} {nm:ByteArray} {g:G} (het:et≠0) (hp:m.params= [⟨#[97]⟩,⟨#[98]⟩]) (hm:m.body= [.mk 6 nm [e] [] []]) (hv:validE e=true) (hc:cov e=true) (h:gM cs cl m=some g):
 run et er a b g.code 5000 0 []=eval et er a b e:=by
 unfold gM at h
 dsimp only at h
 split at h
 ·cases h
 ·rename_i hs
  injection h with h
  have hlen:g.code.length≤4000:=by
   rw [←h]
   omega
  have hg:g.code=(emit (emit (gE cs cl.fields ⟨[],[],vars0 m.params,m.params.length,0,0,false⟩ (fold e)) 22 0 0 1 0) 25 0 0 0 0).code:=by
   rw [←h,hm]
   unfold gB
   rw [gSs,gSs,gS,folds,folds]
   rfl
  have hl:=zBV (et:=et) (er:=er) (a:=a) (b:=b) e hv hc
  rw [←zJ9 e hv hc] at hl ⊢
  have hvf:=zAR e hv
  have hcf:=zFU e hc
  have r:=zDU (et:=et) (er:=er) (a:=a) (b:=b) (c:=g.code) cs cl.fields het (fold e) ⟨[],[],vars0 m.params,m.params.length,0,0,false⟩ hvf hcf (by rw [hp];rfl) (by rw [hp];rfl) (fun i x _ hx=>by rw [hg];exact Kp.emit _ _ _ _ _ _ _ _ (Kp.emit _ _ _ _ _ _ _ _ hx))
  have hx:g.code[(gE cs cl.fields ⟨[],[],vars0 m.params,m.params.length,0,0,false⟩ (fold e)).code.length]? =some (22,0,0):=by
   rw [hg]
   exact Kp.emit _ _ _ _ _ _ _ _ (zAQ ..)
  have hlt:(gE cs cl.fields ⟨[],[],vars0 m.params,m.params.length,0,0,false⟩ (fold e)).code.length<4000:=by
   have:=(List.getElem?_eq_some_iff.1 hx).1
   omega
  generalize (gE cs cl.fields ⟨[],[],vars0 m.params,m.params.length,0,0,false⟩ (fold e)).code.length=p at r hx hlt
  have r':Out et er a b g.code 0 p (eval et er a b (fold e)):=r
  generalize eval et er a b (fold e)=res at r' hl
  obtain⟨v,f,t⟩:=res
  obtain⟨ht,hn⟩:=hl
  have ht':t=true:=ht
  subst ht'
  by_cases hf:f=0
  ·subst hf
   obtain⟨k,hk,hg2⟩:=r'.ok rfl
   have e5:5000=((5000 -k -1)+1)+k:=by omega
   rw [e5,hg2 [],run,hx]
   rfl
  ·obtain⟨k,hk,hg2⟩:=r'.bad hf
   have hn':v=none:=hn hf
   have e5:5000=(5000 -k)+k:=by omega
   rw [e5,hg2 (5000 -k) [],hn']
end
end Co
end Go.Proofs.YtcnmfcgmnkncaaaGreatDoor
namespace Go.Proofs.YtcnmfcgmnkncaaaGreatDoor
namespace Cw
open Go.RowKit Go.Maps Pw
def iCells (x:Co.Ins):List Value:= [.int .i64 x.1,.int .i64 x.2.1,.int .i64 x.2.2]
def vCells (x:ByteArray × Nat):List Value:= [.string x.1,.int .i64 x.2]
theorem zDC (x:Co.Ins):(iCells x).length=3:=rfl
theorem zBJ (x:ByteArray × Nat):(vCells x).length=2:=rfl
theorem zHS (x:Co.Ins):∀u∈iCells x,u.oneCell'=true:=by
 intro u hu
 simp only [iCells,List.mem_cons,List.not_mem_nil,or_false] at hu
 rcases hu with rfl|rfl|rfl<;>rfl
theorem zEN (x:ByteArray × Nat):∀u∈vCells x,u.oneCell'=true:=by
 intro u hu
 simp only [vCells,List.mem_cons,List.not_mem_nil,or_false] at hu
 rcases hu with rfl|rfl<;>rfl
theorem zLG (x:ByteArray):∀u∈nCells x,u.oneCell'=true:=by
 intro u hu
 simp only [nCells,List.mem_cons,List.not_mem_nil,or_false] at hu
 subst hu
 rfl
theorem zX {W W':World} {B:Nat} {e:TypeId} {k n:Nat} {v:Value} {xs:List Value} (h:W.ownsRow B e k v n xs) (hk:∀q,v.ownBlock=some q→W'.heap[q]? =W.heap[q]?):W'.ownsRow B e k v n xs:=by
 refine⟨h.1,?_⟩
 rcases h.2 with hn|⟨g,cap,cur,rfl,hb,hg,rest⟩
 ·exact .inl hn
 ·exact .inr ⟨g,cap,cur,rfl,hb,(hk g rfl).trans hg,rest⟩
theorem zR {W:World} {B:Nat} {e:TypeId} {k n:Nat} {v:Value} {xs:List Value} (h:W.ownsRow B e k v n xs) {q:Nat} (hq:v.ownBlock=some q):B≤q∧q<W.heap.size:=by
 obtain⟨h1,cur,h2⟩:=zS0 h hq
 exact⟨h1,lt_of_block h2⟩
section
variable {P:Program} {α:Type} {f:α→List Value} {k:Nat} {e:TypeId} {B:Nat} {w:World} {v:Value} {tr:List α}
theorem zL8 (hf:∀a,(f a).length=k) (t ty:TypeId) (i:TypeInfo) (z:Value) (bytes:Nat) (ht:P.underlying t=some (.slice e)) (hi:P.info? e=some i) (hz:i.zero=some z) (hsize:i.size=k) (hby:i.bytes=bytes) (hzs:z.cells.size=k) (hsz:0<k)
 (hrow:w.ownsRow B e k v tr.length (flatV f tr)) (G:Nat) (cs:Array Value) (x:α) (hG:w.heap[G]? =some (.cells cs e (0,0))) (hcs:cs.toList=f x) (h1:∀u∈f x,u.oneCell'=true) (hlen:tr.length+1≤maxLen) (hbytes:(tr.length+1)*bytes≤140737488355328) (hbase:B≤w.heap.size):
 ∃v' w',(Builtin.append_ #[t,t] ty #[v,.slice (some ⟨G,0,none⟩) 1 1]).run P w= .ok v' w'∧w'.ownsRow B e k v' (tr++ [x]).length (flatV f (tr++ [x]))∧w.grownBy w' v.ownBlock∧(v'.ownBlock=v.ownBlock∨v'.ownBlock=some w.heap.size):=by
 have hnews:∀j u,(f x)[j]? =some u→w.cell? ((⟨G,0,none⟩:Addr).add j)=some u:=fun j u hj=>by
  have e:(⟨G,0,none⟩:Addr).add j=⟨G,0+j,none⟩:=by unfold Addr.add;split<;>simp_all
  rw [e,Nat.zero_add]
  refine zB hG ?_
  rw [←hcs,Array.getElem?_toList] at hj
  exact hj
 obtain⟨v',w',hr,h2,h3,h4⟩:=run_append_own (P:=P) w B t ty e i z k bytes ht hi hz hsize hby hzs hsz v tr.length (flatV f tr) hrow ⟨G,0,none⟩ 1 1 (f x) (by rw [hf,Nat.one_mul]) hnews h1 hlen hbytes hbase
 have h5:=zCP w B t ty e i z k bytes ht hi hz hsize hby v tr.length (flatV f tr) hrow ⟨G,0,none⟩ 1 1 (f x) (by rw [hf,Nat.one_mul]) (by decide) hnews h1 hlen hbytes v' w' hr
 refine⟨v',w',hr,?_,h3,h5⟩
 rw [List.length_append,zAP,z8,zC4,List.append_nil]
 exact h2
theorem zCB (hf:∀a,(f a).length=k) {ops:Array Oper} {rest:List Oper} {o:Oper} {a:Act} {Q:Exit→Act→World→Prop} (hgd:o.guard=none) (s y:Operand) (t:TypeId)
 (ho:o.op= .call { callee:= .builtin .append,args:= #[s,y],argTypes:= #[t,t] })
 (i:TypeInfo) (z:Value) (bytes:Nat) (ht:P.underlying t=some (.slice e)) (hi:P.info? e=some i) (hz:i.zero=some z) (hsize:i.size=k) (hby:i.bytes=bytes) (hzs:z.cells.size=k) (hsz:0<k)
 (hs:a.eval s=v) (hrow:w.ownsRow B e k v tr.length (flatV f tr)) (G:Nat) (cs:Array Value) (x:α) (hy:a.eval y= .slice (some ⟨G,0,none⟩) 1 1) (hG:w.heap[G]? =some (.cells cs e (0,0))) (hcs:cs.toList=f x) (h1:∀u∈f x,u.oneCell'=true) (hlen:tr.length+1≤maxLen) (hbytes:(tr.length+1)*bytes≤140737488355328) (hbase:B≤w.heap.size)
 (h:∀v' w',w'.ownsRow B e k v' (tr++ [x]).length (flatV f (tr++ [x]))→w.grownBy w' v.ownBlock→(v'.ownBlock=v.ownBlock∨v'.ownBlock=some w.heap.size)→wpList P ops Q rest (a.put o.dst v') w'):wpList P ops Q (o::rest) a w:=
 wpList_plain hgd fun K hK=>by
  obtain⟨v',w',hr,h2,h3,h4⟩:=zL8 (P:=P) hf t o.type i z bytes ht hi hz hsize hby hzs hsz hrow G cs x hG hcs h1 hlen hbytes hbase
  unfold Oper.wp execOp
  simp only [ho,resolve,invoke,builtin,Sem.run_bind,Sem.run_pure,Result.andThen_ok,List.map_toArray,List.map_cons,List.map_nil,hs,hy,hr]
  exact hK _ _ (h v' w' h2 h3 h4)
theorem zD3 (hf:∀a,(f a).length=k) {ops:Array Oper} {E:Prop} {o:Oper} {a:Act} {K:Act→World→Prop} {Q:Exit→Act→World→Prop} (hgd:o.guard=none) (s y:Operand) (t:TypeId)
 (ho:o.op= .call { callee:= .builtin .append,args:= #[s,y],argTypes:= #[t,t] })
 (i:TypeInfo) (z:Value) (bytes:Nat) (ht:P.underlying t=some (.slice e)) (hi:P.info? e=some i) (hz:i.zero=some z) (hsize:i.size=k) (hby:i.bytes=bytes) (hzs:z.cells.size=k) (hsz:0<k)
 (hs:a.eval s=v) (hrow:w.ownsRow B e k v tr.length (flatV f tr)) (G:Nat) (cs:Array Value) (x:α) (hy:a.eval y= .slice (some ⟨G,0,none⟩) 1 1) (hG:w.heap[G]? =some (.cells cs e (0,0))) (hcs:cs.toList=f x) (h1:∀u∈f x,u.oneCell'=true) (hlen:tr.length+1≤maxLen) (hbytes:(tr.length+1)*bytes≤140737488355328) (hbase:B≤w.heap.size)
 (h:∀v' w',w'.ownsRow B e k v' (tr++ [x]).length (flatV f (tr++ [x]))→w.grownBy w' v.ownBlock→(v'.ownBlock=v.ownBlock∨v'.ownBlock=some w.heap.size)→K (a.put o.dst v') w'):if Region.wanted o (yielded ops a.tmps)=true then Oper.wp P o a w K Q else E:=by
 have hw:Region.wanted o (yielded ops a.tmps)=true:=by simp [Region.wanted,hgd]
 rw [if_pos hw]
 obtain⟨v',w',hr,h2,h3,h4⟩:=zL8 (P:=P) hf t o.type i z bytes ht hi hz hsize hby hzs hsz hrow G cs x hG hcs h1 hlen hbytes hbase
 unfold Oper.wp execOp
 simp only [ho,resolve,invoke,builtin,Sem.run_bind,Sem.run_pure,Result.andThen_ok,List.map_toArray,List.map_cons,List.map_nil,hs,hy,hr]
 exact h v' w' h2 h3 h4
end
def loW (B0:Nat) (W:World):World:=hide (fun b=>decide (B0≤b)) W
theorem zBH {B0:Nat} {W W':World} (hs:W.heap.size≤W'.heap.size) (h:∀b,b<W.heap.size→b<B0→W'.heap[b]? =W.heap[b]?):Inc (loW B0 W) (loW B0 W'):=by
 refine⟨by unfold loW;rw [z6,z6];exact hs,fun b o v hc=>?_⟩
 obtain⟨h1,h2⟩:=zN hc
 have h3:b<B0:=by
  have:=of_decide_eq_false h1
  omega
 unfold loW
 rw [zAO h1]
 have h4:=h b (zZ h2) h3
 unfold World.cell? at h2 ⊢
 rw [h4]
 exact h2
def owl (gb:Nat) (cv nv vv:Value):List Nat:=gb::(ownL cv++(ownL nv++ownL vv))
structure GS (B0 gb:Nat) (cs:List Tr.C) (cl:Tr.C) (pv fv mv:Value) (g:Co.G) (cv nv vv:Value) (W:World):Prop where
 blk:W.heap[gb]? =some (.cells #[pv,.string cl.name,.bool cl.actor,fv,mv,cv,nv,vv,.int .i64 g.locals,.int .i64 g.depth,.int .i64 g.most,.bool g.large] 104 (0,0))
 code:W.ownsRow B0 65 3 cv g.code.length (flatV iCells g.code)
 names:W.ownsRow B0 9 1 nv g.names.length (flatV nCells g.names)
 vars:W.ownsRow B0 106 2 vv g.vars.length (flatV vCells g.vars)
 nd:(owl gb cv nv vv).Nodup
 ge:B0≤gb
 ns:∀s∈g.names,s.size≤maxLen
 vs:∀x∈g.vars,x.1.size≤maxLen
 pc:SlC (loW B0 W) pv cs
 fc:SlStr (loW B0 W) fv cl.fields
section
variable {B0 gb:Nat} {cs:List Tr.C} {cl:Tr.C} {pv fv mv:Value} {g:Co.G} {cv nv vv:Value} {W W':World}
theorem zQ {q:Nat}:q∈owl gb cv nv vv↔q=gb∨cv.ownBlock=some q∨nv.ownBlock=some q∨vv.ownBlock=some q:=by
 unfold owl
 rw [List.mem_cons,List.mem_append,List.mem_append,zV,zV,zV]
theorem zA3:(owl gb cv nv vv).Nodup↔(cv.ownBlock≠some gb∧nv.ownBlock≠some gb∧vv.ownBlock≠some gb)∧(∀q,cv.ownBlock=some q→nv.ownBlock≠some q∧vv.ownBlock≠some q)∧(∀q,nv.ownBlock=some q→vv.ownBlock≠some q):=by
 have h1:∀v:Value,(ownL v).Nodup:=fun v=>by unfold ownL;cases v.ownBlock<;>simp
 unfold owl
 rw [List.nodup_cons,List.nodup_append,List.nodup_append]
 simp only [List.mem_append,zV,not_or]
 constructor
 ·rintro ⟨⟨a,b,c⟩,_,⟨_,_,d⟩,e⟩
  exact⟨⟨a,b,c⟩,fun q hq=>⟨fun h=>e q hq q (.inl h) rfl,fun h=>e q hq q (.inr h) rfl⟩,fun q hq h=>d q hq q h rfl⟩
 ·rintro ⟨⟨a,b,c⟩,d,e⟩
  exact⟨⟨a,b,c⟩,h1 _,⟨h1 _,h1 _,fun q hq r hr hqr=>e q hq (hqr▸hr)⟩,fun q hq r hr hqr=>by
   subst hqr
   rcases hr with hr|hr
   ·exact(d q hq).1 hr
   ·exact(d q hq).2 hr⟩
theorem GS.ol (h:GS B0 gb cs cl pv fv mv g cv nv vv W):∀b∈owl gb cv nv vv,b<W.heap.size∧B0≤b:=by
 intro b hb
 rcases zQ.1 hb with rfl|hb|hb|hb
 ·exact⟨lt_of_block h.blk,h.ge⟩
 ·exact(zR h.code hb).symm
 ·exact(zR h.names hb).symm
 ·exact(zR h.vars hb).symm
theorem GS.keep (h:GS B0 gb cs cl pv fv mv g cv nv vv W) (hs:W.heap.size≤W'.heap.size) (hk:∀b,b<W.heap.size→(b∈owl gb cv nv vv∨b<B0)→W'.heap[b]? =W.heap[b]?):GS B0 gb cs cl pv fv mv g cv nv vv W' where
 blk:=(hk gb (lt_of_block h.blk) (.inl (zQ.2 (.inl rfl)))).trans h.blk
 code:=zX h.code (fun q hq=>hk q (zR h.code hq).2 (.inl (zQ.2 (.inr (.inl hq)))))
 names:=zX h.names (fun q hq=>hk q (zR h.names hq).2 (.inl (zQ.2 (.inr (.inr (.inl hq))))))
 vars:=zX h.vars (fun q hq=>hk q (zR h.vars hq).2 (.inl (zQ.2 (.inr (.inr (.inr hq))))))
 nd:=h.nd
 ge:=h.ge
 ns:=h.ns
 vs:=h.vs
 pc:=h.pc.inc (zBH hs (fun b hb h0=>hk b hb (.inr h0)))
 fc:=h.fc.inc (zBH hs (fun b hb h0=>hk b hb (.inr h0)))
theorem GS.pcw (h:GS B0 gb cs cl pv fv mv g cv nv vv W):SlC W pv cs:=h.pc.inc (zFP _ _)
theorem GS.fcw (h:GS B0 gb cs cl pv fv mv g cv nv vv W):SlStr W fv cl.fields:=h.fc.inc (zFP _ _)
theorem zNH {B:Nat} {v:Value} {l:List ByteArray} (h:W.ownsRow B 9 1 v l.length (flatV nCells l)) (hs:∀x∈l,x.size≤maxLen):SlStr W v l:=zD4 h hs
theorem GS.put (h:GS B0 gb cs cl pv fv mv g cv nv vv W) (j:Nat) (u:Value) {g':Co.G} (hc:g'.code=g.code) (hn:g'.names=g.names) (hv:g'.vars=g.vars)
 (hb:(#[pv,.string cl.name,.bool cl.actor,fv,mv,cv,nv,vv,.int .i64 g.locals,.int .i64 g.depth,.int .i64 g.most,.bool g.large]:Array Value).setIfInBounds j u= #[pv,.string cl.name,.bool cl.actor,fv,mv,cv,nv,vv,.int .i64 g'.locals,.int .i64 g'.depth,.int .i64 g'.most,.bool g'.large]):
 GS B0 gb cs cl pv fv mv g' cv nv vv (W.setCell ⟨gb,j,none⟩ u)∧Gr W (owl gb cv nv vv) (W.setCell ⟨gb,j,none⟩ u) (owl gb cv nv vv):=by
 have hg:=zH W gb j u
 obtain⟨⟨d1,d2,d3⟩,d4,d5⟩:=zA3.1 h.nd
 have ho:∀q,q≠gb→q<W.heap.size→(W.setCell ⟨gb,j,none⟩ u).heap[q]? =W.heap[q]?:=fun q hq hlt=>hg.block q hlt (ne_sm hq)
 refine⟨⟨?_,?_,?_,?_,h.nd,h.ge,by rw [hn];exact h.ns,by rw [hv];exact h.vs,h.pc.inc ?_,h.fc.inc ?_⟩,Gr.by hg (zQ.2 (.inl rfl))⟩
 ·have h2:=Pw.heap_set (j:=j) u h.blk
  rw [hb] at h2
  exact h2
 ·rw [hc]
  exact zX h.code (fun q hq=>ho q (fun e=>d1 (e▸hq)) (zR h.code hq).2)
 ·rw [hn]
  exact zX h.names (fun q hq=>ho q (fun e=>d2 (e▸hq)) (zR h.names hq).2)
 ·rw [hv]
  exact zX h.vars (fun q hq=>ho q (fun e=>d3 (e▸hq)) (zR h.vars hq).2)
 ·exact zBH hg.size (fun b hb h0=>ho b (by have:=h.ge;omega) hb)
 ·exact zBH hg.size (fun b hb h0=>ho b (by have:=h.ge;omega) hb)
theorem GS.addCode (h:GS B0 gb cs cl pv fv mv g cv nv vv W) {x:Co.Ins} {v':Value} (hr:W'.ownsRow B0 65 3 v' (g.code++ [x]).length (flatV iCells (g.code++ [x]))) (hg:W.grownBy W' cv.ownBlock) (hf:v'.ownBlock=cv.ownBlock∨v'.ownBlock=some W.heap.size):
 GS B0 gb cs cl pv fv mv { g with code:=g.code++ [x] } v' nv vv (W'.setCell ⟨gb,5,none⟩ v')∧Gr W (owl gb cv nv vv) (W'.setCell ⟨gb,5,none⟩ v') (owl gb v' nv vv):=by
 obtain⟨⟨d1,d2,d3⟩,d4,d5⟩:=zA3.1 h.nd
 have hs:=zH W' gb 5 v'
 have hlt:=h.ol
 have hgb:=lt_of_block h.blk
 have hb1:W'.heap[gb]? =_:=gr_at hg h.blk (fun e=>d1 e.symm)
 have hne:∀q,v'.ownBlock=some q→q≠gb:=fun q hq e=>by
  subst e
  rcases hf with hf|hf
  ·exact d1 (hf▸hq)
  ·rw [hf] at hq
   injection hq with hq
   omega
 have hr2:(W'.setCell ⟨gb,5,none⟩ v').ownsRow B0 65 3 v' (g.code++ [x]).length (flatV iCells (g.code++ [x])):=zX hr (fun q hq=>hs.block q (zR hr hq).2 (ne_sm (hne q hq)))
 have hnd:(owl gb v' nv vv).Nodup:=by
  rw [zA3]
  have hfr:∀q,v'.ownBlock=some q→q<W.heap.size→cv.ownBlock=some q:=fun q hq hl=>by
   rcases hf with hf|hf
   ·exact hf▸hq
   ·rw [hf] at hq
    injection hq with hq
    omega
  refine⟨⟨fun e=>hne gb e rfl,d2,d3⟩,fun q hq=>⟨fun e=>?_,fun e=>?_⟩,d5⟩
  ·exact(d4 q (hfr q hq (zR h.names e).2)).1 e
  ·exact(d4 q (hfr q hq (zR h.vars e).2)).2 e
 have hlo:∀b,b<W.heap.size→b<B0→(W'.setCell ⟨gb,5,none⟩ v').heap[b]? =W.heap[b]?:=fun b hb h0=>(hs.block b (Nat.lt_of_lt_of_le hb hg.size) (ne_sm (by have:=h.ge;omega))).trans (hg.block b hb (fun e=>by have:=(zR h.code e.symm).1;omega))
 refine⟨⟨?_,hr2,zX h.names (fun q hq=>(hs.block q (Nat.lt_of_lt_of_le (zR h.names hq).2 hg.size) (ne_sm (fun e=>d2 (e▸hq)))).trans (hg.block q (zR h.names hq).2 (fun e=>(fun e=>(d4 q e).1 hq) e.symm))),zX h.vars (fun q hq=>(hs.block q (Nat.lt_of_lt_of_le (zR h.vars hq).2 hg.size) (ne_sm (fun e=>d3 (e▸hq)))).trans (hg.block q (zR h.vars hq).2 (fun e=>(fun e=>(d4 q e).2 hq) e.symm))),hnd,h.ge,h.ns,h.vs,h.pc.inc (zBH (Nat.le_trans hg.size hs.size) hlo),h.fc.inc (zBH (Nat.le_trans hg.size hs.size) hlo)⟩,⟨hs.os.trans hg.os,hs.tape.trans hg.tape,hs.output.trans hg.output,Nat.le_trans hg.size hs.size,fun b hb hn=>?_,fun b hb=>?_⟩⟩
 ·exact Pw.heap_set (j:=5) v' hb1
 ·exact(hs.block b (Nat.lt_of_lt_of_le hb hg.size) (fun e=>hn (zQ.2 (.inl (by injection e))))).trans (hg.block b hb (fun e=>hn (zQ.2 (.inr (.inl e.symm)))))
 ·rcases zQ.1 hb with rfl|hb|hb|hb
  ·exact .inl (zQ.2 (.inl rfl))
  ·rcases hf with hf|hf
   ·exact .inl (zQ.2 (.inr (.inl (hf▸hb))))
   ·rw [hf] at hb
    injection hb with hb
    exact .inr (by omega)
  ·exact .inl (zQ.2 (.inr (.inr (.inl hb))))
  ·exact .inl (zQ.2 (.inr (.inr (.inr hb))))
theorem GS.addName (h:GS B0 gb cs cl pv fv mv g cv nv vv W) {x:ByteArray} {v':Value} (hr:W'.ownsRow B0 9 1 v' (g.names++ [x]).length (flatV nCells (g.names++ [x]))) (hg:W.grownBy W' nv.ownBlock) (hf:v'.ownBlock=nv.ownBlock∨v'.ownBlock=some W.heap.size) (hx:x.size≤maxLen):
 GS B0 gb cs cl pv fv mv { g with names:=g.names++ [x] } cv v' vv (W'.setCell ⟨gb,6,none⟩ v')∧Gr W (owl gb cv nv vv) (W'.setCell ⟨gb,6,none⟩ v') (owl gb cv v' vv):=by
 obtain⟨⟨d1,d2,d3⟩,d4,d5⟩:=zA3.1 h.nd
 have hs:=zH W' gb 6 v'
 have hlt:=h.ol
 have hgb:=lt_of_block h.blk
 have hb1:W'.heap[gb]? =_:=gr_at hg h.blk (fun e=>d2 e.symm)
 have hne:∀q,v'.ownBlock=some q→q≠gb:=fun q hq e=>by
  subst e
  rcases hf with hf|hf
  ·exact d2 (hf▸hq)
  ·rw [hf] at hq
   injection hq with hq
   omega
 have hr2:(W'.setCell ⟨gb,6,none⟩ v').ownsRow B0 9 1 v' (g.names++ [x]).length (flatV nCells (g.names++ [x])):=zX hr (fun q hq=>hs.block q (zR hr hq).2 (ne_sm (hne q hq)))
 have hnd:(owl gb cv v' vv).Nodup:=by
  rw [zA3]
  have hfr:∀q,v'.ownBlock=some q→q<W.heap.size→nv.ownBlock=some q:=fun q hq hl=>by
   rcases hf with hf|hf
   ·exact hf▸hq
   ·rw [hf] at hq
    injection hq with hq
    omega
  refine⟨⟨d1,fun e=>hne gb e rfl,d3⟩,fun q hq=>⟨fun e=>?_,(d4 q hq).2⟩,fun q hq e=>?_⟩
  ·exact(d4 q hq).1 (hfr q e (zR h.code hq).2)
  ·exact d5 q (hfr q hq (zR h.vars e).2) e
 have hlo:∀b,b<W.heap.size→b<B0→(W'.setCell ⟨gb,6,none⟩ v').heap[b]? =W.heap[b]?:=fun b hb h0=>(hs.block b (Nat.lt_of_lt_of_le hb hg.size) (ne_sm (by have:=h.ge;omega))).trans (hg.block b hb (fun e=>by have:=(zR h.names e.symm).1;omega))
 refine⟨⟨?_,zX h.code (fun q hq=>(hs.block q (Nat.lt_of_lt_of_le (zR h.code hq).2 hg.size) (ne_sm (fun e=>d1 (e▸hq)))).trans (hg.block q (zR h.code hq).2 (fun e=>(fun e=>(d4 q hq).1 e) e.symm))),hr2,zX h.vars (fun q hq=>(hs.block q (Nat.lt_of_lt_of_le (zR h.vars hq).2 hg.size) (ne_sm (fun e=>d3 (e▸hq)))).trans (hg.block q (zR h.vars hq).2 (fun e=>(fun e=>d5 q e hq) e.symm))),hnd,h.ge,fun s hs=>by rcases List.mem_append.1 hs with hs|hs;exact h.ns s hs;rw [List.mem_singleton.1 hs];exact hx,h.vs,h.pc.inc (zBH (Nat.le_trans hg.size hs.size) hlo),h.fc.inc (zBH (Nat.le_trans hg.size hs.size) hlo)⟩,⟨hs.os.trans hg.os,hs.tape.trans hg.tape,hs.output.trans hg.output,Nat.le_trans hg.size hs.size,fun b hb hn=>?_,fun b hb=>?_⟩⟩
 ·exact Pw.heap_set (j:=6) v' hb1
 ·exact(hs.block b (Nat.lt_of_lt_of_le hb hg.size) (fun e=>hn (zQ.2 (.inl (by injection e))))).trans (hg.block b hb (fun e=>hn (zQ.2 (.inr (.inr (.inl e.symm))))))
 ·rcases zQ.1 hb with rfl|hb|hb|hb
  ·exact .inl (zQ.2 (.inl rfl))
  ·exact .inl (zQ.2 (.inr (.inl hb)))
  ·rcases hf with hf|hf
   ·exact .inl (zQ.2 (.inr (.inr (.inl (hf▸hb)))))
   ·rw [hf] at hb
    injection hb with hb
    exact .inr (by omega)
  ·exact .inl (zQ.2 (.inr (.inr (.inr hb))))
theorem GS.addVar (h:GS B0 gb cs cl pv fv mv g cv nv vv W) {x:ByteArray × Nat} {v':Value} (hr:W'.ownsRow B0 106 2 v' (g.vars++ [x]).length (flatV vCells (g.vars++ [x]))) (hg:W.grownBy W' vv.ownBlock) (hf:v'.ownBlock=vv.ownBlock∨v'.ownBlock=some W.heap.size) (hx:x.1.size≤maxLen):
 GS B0 gb cs cl pv fv mv { g with vars:=g.vars++ [x] } cv nv v' (W'.setCell ⟨gb,7,none⟩ v')∧Gr W (owl gb cv nv vv) (W'.setCell ⟨gb,7,none⟩ v') (owl gb cv nv v'):=by
 obtain⟨⟨d1,d2,d3⟩,d4,d5⟩:=zA3.1 h.nd
 have hs:=zH W' gb 7 v'
 have hlt:=h.ol
 have hgb:=lt_of_block h.blk
 have hb1:W'.heap[gb]? =_:=gr_at hg h.blk (fun e=>d3 e.symm)
 have hne:∀q,v'.ownBlock=some q→q≠gb:=fun q hq e=>by
  subst e
  rcases hf with hf|hf
  ·exact d3 (hf▸hq)
  ·rw [hf] at hq
   injection hq with hq
   omega
 have hr2:(W'.setCell ⟨gb,7,none⟩ v').ownsRow B0 106 2 v' (g.vars++ [x]).length (flatV vCells (g.vars++ [x])):=zX hr (fun q hq=>hs.block q (zR hr hq).2 (ne_sm (hne q hq)))
 have hnd:(owl gb cv nv v').Nodup:=by
  rw [zA3]
  have hfr:∀q,v'.ownBlock=some q→q<W.heap.size→vv.ownBlock=some q:=fun q hq hl=>by
   rcases hf with hf|hf
   ·exact hf▸hq
   ·rw [hf] at hq
    injection hq with hq
    omega
  refine⟨⟨d1,d2,fun e=>hne gb e rfl⟩,fun q hq=>⟨(d4 q hq).1,fun e=>?_⟩,fun q hq e=>?_⟩
  ·exact(d4 q hq).2 (hfr q e (zR h.code hq).2)
  ·exact d5 q hq (hfr q e (zR h.names hq).2)
 have hlo:∀b,b<W.heap.size→b<B0→(W'.setCell ⟨gb,7,none⟩ v').heap[b]? =W.heap[b]?:=fun b hb h0=>(hs.block b (Nat.lt_of_lt_of_le hb hg.size) (ne_sm (by have:=h.ge;omega))).trans (hg.block b hb (fun e=>by have:=(zR h.vars e.symm).1;omega))
 refine⟨⟨?_,zX h.code (fun q hq=>(hs.block q (Nat.lt_of_lt_of_le (zR h.code hq).2 hg.size) (ne_sm (fun e=>d1 (e▸hq)))).trans (hg.block q (zR h.code hq).2 (fun e=>(fun e=>(d4 q hq).2 e) e.symm))),zX h.names (fun q hq=>(hs.block q (Nat.lt_of_lt_of_le (zR h.names hq).2 hg.size) (ne_sm (fun e=>d2 (e▸hq)))).trans (hg.block q (zR h.names hq).2 (fun e=>(fun e=>d5 q hq e) e.symm))),hr2,hnd,h.ge,h.ns,fun s hs=>by rcases List.mem_append.1 hs with hs|hs;exact h.vs s hs;rw [List.mem_singleton.1 hs];exact hx,h.pc.inc (zBH (Nat.le_trans hg.size hs.size) hlo),h.fc.inc (zBH (Nat.le_trans hg.size hs.size) hlo)⟩,⟨hs.os.trans hg.os,hs.tape.trans hg.tape,hs.output.trans hg.output,Nat.le_trans hg.size hs.size,fun b hb hn=>?_,fun b hb=>?_⟩⟩
 ·exact Pw.heap_set (j:=7) v' hb1
 ·exact(hs.block b (Nat.lt_of_lt_of_le hb hg.size) (fun e=>hn (zQ.2 (.inl (by injection e))))).trans (hg.block b hb (fun e=>hn (zQ.2 (.inr (.inr (.inr e.symm))))))
 ·rcases zQ.1 hb with rfl|hb|hb|hb
  ·exact .inl (zQ.2 (.inl rfl))
  ·exact .inl (zQ.2 (.inr (.inl hb)))
  ·exact .inl (zQ.2 (.inr (.inr (.inl hb))))
  ·rcases hf with hf|hf
   ·exact .inl (zQ.2 (.inr (.inr (.inr (hf▸hb)))))
   ·rw [hf] at hb
    injection hb with hb
    exact .inr (by omega)
end
def GQ (B0 gb:Nat) (cs:List Tr.C) (cl:Tr.C) (pv fv mv:Value) (g':Co.G) (cv nv vv:Value) (w:World) (e:Ending) (w':World):Prop:=
 e= .returned (.tuple #[])∧∃cv' nv' vv',GS B0 gb cs cl pv fv mv g' cv' nv' vv' w'∧Gr w (owl gb cv nv vv) w' (owl gb cv' nv' vv')
abbrev Mg (B0 gb:Nat) (cs:List Tr.C) (cl:Tr.C) (pv fv mv:Value) (w:World) (o0:List Nat) (g:Co.G) (cv nv vv:Value) (bs:List Bk) (os:List (World→Prop)) (W:World):Prop:=Mz B0 0 w o0 (GS B0 gb cs cl pv fv mv g cv nv vv) (owl gb cv nv vv) bs os W
section
variable {B0 gb:Nat} {cs:List Tr.C} {cl:Tr.C} {pv fv mv:Value} {g g':Co.G} {cv nv vv cv' nv' vv':Value} {w W W':World} {o0:List Nat} {bs:List Bk} {os:List (World→Prop)}
theorem Mg.start {os:List (World→Prop)} (h:GS B0 gb cs cl pv fv mv g cv nv vv w) (hB:B0≤w.heap.size) (ro:∀r∈os,Mn r∧r (hide (upL 0 (owl gb cv nv vv)) w)):Mg B0 gb cs cl pv fv mv w (owl gb cv nv vv) g cv nv vv [] os w:=
 Mz.start h (fun hs hk hq=>hq.keep hs hk) hB (Nat.zero_le _) h.ol ro
theorem Mg.move (h:Mg B0 gb cs cl pv fv mv w o0 g cv nv vv bs os W) (hq:GS B0 gb cs cl pv fv mv g' cv' nv' vv' W') (hg:Gr W (owl gb cv nv vv) W' (owl gb cv' nv' vv')):Mg B0 gb cs cl pv fv mv w o0 g' cv' nv' vv' bs os W':=
 h.call hg hq.ol hq (fun hs hk hq=>hq.keep hs hk)
theorem Mg.done (h:Mg B0 gb cs cl pv fv mv w o0 g cv nv vv bs os W) {e:Ending} (hp:GQ B0 gb cs cl pv fv mv g' cv nv vv W e W'):e= .returned (.tuple #[])∧∃cv' nv' vv',Hid (Mg B0 gb cs cl pv fv mv w o0 g' cv' nv' vv' bs os W'):=by
 obtain⟨he,c,n,v,h1,h2⟩:=hp
 exact⟨he,c,n,v,zh (Mg.move h h1 h2)⟩
theorem Mg.fin (h:Mg B0 gb cs cl pv fv mv w (owl gb cv nv vv) g' cv' nv' vv' bs os W):GQ B0 gb cs cl pv fv mv g' cv nv vv w (.returned (.tuple #[])) W:=⟨rfl,_,_,_,h.q,h.gr⟩
end
end Cw
end Go.Proofs.YtcnmfcgmnkncaaaGreatDoor
