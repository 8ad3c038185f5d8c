/-
  Several texts in one: PbMx, PbReg.
-/
import Derived.Test.YtdckddkalgnlpaaGreatDoorV10
import Derived.Deep.RegionHeld3
namespace Go.Proofs.YtdckddkalgnlpaaGreatDoor
open Go.RowKit Go.Maps Pw
theorem ne_sm {a b : Nat} (h : a ≠ b) : some a ≠ some b := fun e => h (by injection e)
theorem cells3 {W : World} {b : Nat} {t : TypeId} {v0 v1 v2 : Value} (h : W.heap[b]? = some (.cells #[v0, v1, v2] t (0, 0))) : b < W.heap.size ∧ W.cell? ⟨b, 0, none⟩ = some v0 ∧ W.frozen? ⟨b, 0, none⟩ = false ∧ W.cell? ⟨b, 1, none⟩ = some v1 ∧ W.frozen? ⟨b, 1, none⟩ = false ∧ W.cell? ⟨b, 2, none⟩ = some v2 ∧ W.frozen? ⟨b, 2, none⟩ = false := ⟨lt_of_block h, cell_of_blkP h (j := 0) rfl, blk_free h 0, cell_of_blkP h (j := 1) rfl, blk_free h 1, cell_of_blkP h (j := 2) rfl, blk_free h 2⟩
theorem cells4 {W : World} {b : Nat} {t : TypeId} {v0 v1 v2 v3 : Value} (h : W.heap[b]? = some (.cells #[v0, v1, v2, v3] t (0, 0))) : b < W.heap.size ∧ W.cell? ⟨b, 0, none⟩ = some v0 ∧ W.frozen? ⟨b, 0, none⟩ = false ∧ W.cell? ⟨b, 1, none⟩ = some v1 ∧ W.frozen? ⟨b, 1, none⟩ = false ∧ W.cell? ⟨b, 2, none⟩ = some v2 ∧ W.frozen? ⟨b, 2, none⟩ = false ∧ W.cell? ⟨b, 3, none⟩ = some v3 ∧ W.frozen? ⟨b, 3, none⟩ = false := ⟨lt_of_block h, cell_of_blkP h (j := 0) rfl, blk_free h 0, cell_of_blkP h (j := 1) rfl, blk_free h 1, cell_of_blkP h (j := 2) rfl, blk_free h 2, cell_of_blkP h (j := 3) rfl, blk_free h 3⟩
theorem cells5 {W : World} {b : Nat} {t : TypeId} {v0 v1 v2 v3 v4 : Value} (h : W.heap[b]? = some (.cells #[v0, v1, v2, v3, v4] t (0, 0))) : b < W.heap.size ∧ W.cell? ⟨b, 0, none⟩ = some v0 ∧ W.frozen? ⟨b, 0, none⟩ = false ∧ W.cell? ⟨b, 1, none⟩ = some v1 ∧ W.frozen? ⟨b, 1, none⟩ = false ∧ W.cell? ⟨b, 2, none⟩ = some v2 ∧ W.frozen? ⟨b, 2, none⟩ = false ∧ W.cell? ⟨b, 3, none⟩ = some v3 ∧ W.frozen? ⟨b, 3, none⟩ = false ∧ W.cell? ⟨b, 4, none⟩ = some v4 ∧ W.frozen? ⟨b, 4, none⟩ = false := ⟨lt_of_block h, cell_of_blkP h (j := 0) rfl, blk_free h 0, cell_of_blkP h (j := 1) rfl, blk_free h 1, cell_of_blkP h (j := 2) rfl, blk_free h 2, cell_of_blkP h (j := 3) rfl, blk_free h 3, cell_of_blkP h (j := 4) rfl, blk_free h 4⟩
theorem cells6 {W : World} {b : Nat} {t : TypeId} {v0 v1 v2 v3 v4 v5 : Value} (h : W.heap[b]? = some (.cells #[v0, v1, v2, v3, v4, v5] t (0, 0))) : b < W.heap.size ∧ W.cell? ⟨b, 0, none⟩ = some v0 ∧ W.frozen? ⟨b, 0, none⟩ = false ∧ W.cell? ⟨b, 1, none⟩ = some v1 ∧ W.frozen? ⟨b, 1, none⟩ = false ∧ W.cell? ⟨b, 2, none⟩ = some v2 ∧ W.frozen? ⟨b, 2, none⟩ = false ∧ W.cell? ⟨b, 3, none⟩ = some v3 ∧ W.frozen? ⟨b, 3, none⟩ = false ∧ W.cell? ⟨b, 4, none⟩ = some v4 ∧ W.frozen? ⟨b, 4, none⟩ = false ∧ W.cell? ⟨b, 5, none⟩ = some v5 ∧ W.frozen? ⟨b, 5, none⟩ = false := ⟨lt_of_block h, cell_of_blkP h (j := 0) rfl, blk_free h 0, cell_of_blkP h (j := 1) rfl, blk_free h 1, cell_of_blkP h (j := 2) rfl, blk_free h 2, cell_of_blkP h (j := 3) rfl, blk_free h 3, cell_of_blkP h (j := 4) rfl, blk_free h 4, cell_of_blkP h (j := 5) rfl, blk_free h 5⟩
def Mn (r : World → Prop) : Prop := ∀ U U' : World, Inc U U' → r U → r U'
structure Im where
 B : Nat
 ob : Option Nat
 r : Nat → List Nat → World → Prop
 fr : World → Prop
structure It (o : Im) : Prop where
 keep : ∀ {B l U U' row}, U.grownBy U' row → (∀ q, row = some q → q < B ∨ q ∈ l) → o.r B l U → o.r B l U'
 more : ∀ {B l U X}, U.heap.size ≤ X → o.r B l U → o.r B (X :: l) U
 wk : ∀ {B l l' U}, o.r B l U → (∀ q ∈ l', q < B ∨ q ∈ l) → o.r B l' U
 own : ∀ {B l U q}, o.r B l U → o.ob = some q → B ≤ q ∧ q < U.heap.size ∧ q ∉ l
 fin : ∀ {B l U B' l'}, o.r B l U → (∀ q, q < B' ∨ q ∈ l' → q < B ∨ q ∈ l) → o.fr (hide (upL B' l') U)
def im (B : Nat) (rd : World → Prop) : Im := ⟨B, none, fun B l U => rd (hide (upL B l) U), rd⟩
theorem im_it {B : Nat} {rd : World → Prop} (h : Mn rd) : It (im B rd) where
 keep := fun hg h1 hr => h _ _ (up_step hg h1 (fun _ _ e => e)) hr
 more := fun {B l U X} hX hr => h _ _ (up_mono (fun q hq hm => by
  rcases hm with hm | hm
  ·exact .inl hm
  ·rcases List.mem_cons.1 hm with hm | hm
   ·omega
   ·exact .inr hm)) hr
 wk := fun hr hw => h _ _ (up_mono (fun q _ hm => by
  rcases hm with hm | hm
  ·exact .inl hm
  ·exact hw q hm)) hr
 own := fun _ e => by cases e
 fin := fun hr hB => h _ _ (up_mono (fun q _ hm => hB q hm)) hr
structure TK {α β : Type} (f : α → List Value) (k : Nat) (e te : TypeId) (ok : World → α → Prop) (rl : World → Value → List β → Prop) (g : α → β) : Prop where
 len : ∀ a, (f a).length = k
 mono : Mono ok
 sl : ∀ {B : Nat} {W : World} {v : Value} {tr : List α}, W.ownsRow B e k v tr.length (flatV f tr) → (∀ x ∈ tr, ok W x) → rl W v (tr.map g)
 one : ∀ {W : World} {x : α}, ok W x → ∀ u ∈ f x, u.oneCell' = true
 und : Tryz.prog.underlying te = some (.slice e)
 inf : ∃ (i : TypeInfo) (z : Value), Tryz.prog.info? e = some i ∧ i.zero = some z ∧ i.size = k ∧ i.bytes ≤ 1000 ∧ z.cells.size = k
 pos : 0 < k
 rmono : ∀ v l, Mn (fun U => rl U v l)
theorem RowOk.more {α : Type} {f : α → List Value} {k : Nat} {t : TypeId} {ok : World → α → Prop} {B : Nat} {l : List Nat} {W : World} {v : Value} {tr : List α} (hmono : Mono ok) (h : RowOk f k t ok B l W v tr) {X : Nat} (h2 : W.heap.size ≤ X) : RowOk f k t ok B (X :: l) W v tr :=
 ⟨h.own, fun x hx => hmono _ _ _ (up_mono (fun q hq hm => by
  rcases hm with hm | hm
  ·exact .inl hm
  ·rcases List.mem_cons.1 hm with hm | hm
   ·omega
   ·exact .inr hm)) (h.rd x hx), fun q hq e => by
  rcases List.mem_cons.1 hq with rfl | hq
  ·have h3 := (h.ge e).2; omega
  ·exact h.nin q hq e⟩
theorem RowOk.wk {α : Type} {f : α → List Value} {k : Nat} {t : TypeId} {ok : World → α → Prop} {B : Nat} {l l' : List Nat} {W : World} {v : Value} {tr : List α} (hmono : Mono ok) (h : RowOk f k t ok B l W v tr) (hw : ∀ q ∈ l', q < B ∨ q ∈ l) : RowOk f k t ok B l' W v tr :=
 ⟨h.own, fun x hx => hmono _ _ _ (up_mono (fun q _ hm => by
  rcases hm with hm | hm
  ·exact .inl hm
  ·rcases List.mem_append.1 hm with hm | hm
   ·rcases hw q hm with h2 | h2
    ·exact .inl h2
    ·exact .inr (List.mem_append.2 (.inl h2))
   ·exact .inr (List.mem_append.2 (.inr hm)))) (h.rd x hx), fun q hq e => by
  rcases hw q hq with h2 | h2
  ·have := (h.ge e).1; omega
  ·exact h.nin q h2 e⟩
theorem RowOk.sl {α β : Type} {f : α → List Value} {k : Nat} {t te : TypeId} {ok : World → α → Prop} {rl : World → Value → List β → Prop} {g : α → β} (T : TK f k t te ok rl g) {B B' : Nat} {l l' : List Nat} {W : World} {v : Value} {tr : List α} (h : RowOk f k t ok B l W v tr) (hB : ∀ q, q < B' ∨ q ∈ l' → q < B ∨ q ∈ l) : rl (hide (upL B' l') W) v (tr.map g) := by
 refine T.sl (B := B) (hide_own h.own (fun q hq => ?_)) (fun x hx => T.mono _ _ _ (up_mono (fun q _ hm => ?_)) (h.rd x hx))
 ·cases hu : upL B' l' q with
  | false => rfl
  | true =>
    exfalso
    rcases hB q (upL_true.1 hu) with h2 | h2
    ·have := (h.ge hq).1; omega
    ·exact h.nin q h2 hq
 ·rcases hB q hm with h2 | h2
  ·exact .inl h2
  ·exact .inr (List.mem_append.2 (.inl h2))
def imR {α β : Type} {f : α → List Value} {k : Nat} {t te : TypeId} {ok : World → α → Prop} {rl : World → Value → List β → Prop} {g : α → β} (_ : TK f k t te ok rl g) (B : Nat) (v : Value) (tr : List α) : Im := ⟨B, v.ownBlock, fun B l U => RowOk f k t ok B l U v tr, fun U => rl U v (tr.map g)⟩
theorem imR_it {α β : Type} {f : α → List Value} {k : Nat} {t te : TypeId} {ok : World → α → Prop} {rl : World → Value → List β → Prop} {g : α → β} (T : TK f k t te ok rl g) {B : Nat} {v : Value} {tr : List α} : It (imR T B v tr) where
 keep := fun hg h1 hr => RowOk.keep T.mono hr hg h1 (fun q hq e => by
  rcases h1 q hq with h2 | h2
  ·have := (RowOk.ge hr e).1; omega
  ·exact RowOk.nin hr q h2 e)
 more := fun hX hr => RowOk.more T.mono hr hX
 wk := fun hr hw => RowOk.wk T.mono hr hw
 own := fun hr e => ⟨(RowOk.ge hr e).1, (RowOk.ge hr e).2, fun hm => RowOk.nin hr _ hm e⟩
 fin := fun hr hB => RowOk.sl T hr hB
abbrev Bk := Nat × Array Value × TypeId
structure Mx (w : World) (P : Nat) (Q : World → Prop) (bs : List Bk) (os : List Im) (W : World) : Prop where
 ps : Q W
 pk : ∀ {U U' : World} {row : Option Nat}, U.grownBy U' row → (∀ q, row = some q → w.heap.size ≤ q) → Q U → Q U'
 gr : w.grownBy W (some P)
 pw : P < w.heap.size
 bl : ∀ x ∈ bs, W.heap[x.1]? = some (.cells x.2.1 x.2.2 (0, 0)) ∧ w.heap.size ≤ x.1
 nd : (bs.map Prod.fst).Nodup
 ro : ∀ o ∈ os, w.heap.size ≤ o.B ∧ o.B ≤ W.heap.size ∧ It o ∧ o.r o.B (bs.map Prod.fst) W
 pr : os.Pairwise fun a b => b.B ≤ a.B ∧ ∀ q, b.ob = some q → q < a.B
section
variable {P : Nat} {w W W' : World} {Q Q' : World → Prop} {bs : List Bk} {os : List Im}
theorem Mx.b (h : Mx w P Q bs os W) (i : Nat) {X : Nat} {cs : Array Value} {t : TypeId} (hi : bs[i]? = some (X, cs, t)) : W.heap[X]? = some (.cells cs t (0, 0)) := (h.bl _ (List.mem_of_getElem? hi)).1
theorem Mx.lt (h : Mx w P Q bs os W) (i : Nat) {X : Nat} {cs : Array Value} {t : TypeId} (hi : bs[i]? = some (X, cs, t)) : w.heap.size ≤ X ∧ X < W.heap.size := ⟨(h.bl _ (List.mem_of_getElem? hi)).2, lt_of_block (h.b i hi)⟩
theorem Mx.lts (h : Mx w P Q bs os W) {q : Nat} (hq : q ∈ bs.map Prod.fst) : w.heap.size ≤ q ∧ q < W.heap.size := by
 obtain ⟨x, hx, rfl⟩ := List.mem_map.1 hq
 exact ⟨(h.bl x hx).2, lt_of_block (h.bl x hx).1⟩
theorem Mx.o (h : Mx w P Q bs os W) (i : Nat) {o : Im} (hi : os[i]? = some o) : o.r o.B (bs.map Prod.fst) W := (h.ro _ (List.mem_of_getElem? hi)).2.2.2
theorem Mx.le (h : Mx w P Q bs os W) : w.heap.size ≤ W.heap.size := h.gr.size
theorem Mx.same (h : Mx w P Q bs os W) (hg : W.grownBy W' none) : Mx w P Q bs os W' where
 ps := h.pk hg (fun _ e => by cases e) h.ps
 pk := h.pk
 gr := gr_none h.gr hg
 pw := h.pw
 bl := fun x hx => ⟨gr_at hg (h.bl x hx).1 (fun e => by cases e), (h.bl x hx).2⟩
 nd := h.nd
 ro := fun o ho => by
  obtain ⟨a, b, d, e⟩ := h.ro o ho
  exact ⟨a, Nat.le_trans b hg.size, d, d.keep hg (fun _ e => by cases e) e⟩
 pr := h.pr
theorem Mx.below (h : Mx w P Q bs os W) (hb : Below W.heap.size W W') : Mx w P Q bs os W' := h.same (gr_below hb none)
theorem Mx.par (h : Mx w P Q bs os W) (hg : W.grownBy W' (some P)) (hk : ∀ {U U' : World} {row : Option Nat}, U.grownBy U' row → (∀ q, row = some q → w.heap.size ≤ q) → Q' U → Q' U') (hp : Q' W') : Mx w P Q' bs os W' where
 ps := hp
 pk := hk
 gr := gr_trans h.gr hg
 pw := h.pw
 bl := fun x hx => ⟨gr_at hg (h.bl x hx).1 (ne_sm (by have := (h.bl x hx).2; have := h.pw; omega)), (h.bl x hx).2⟩
 nd := h.nd
 ro := fun o ho => by
  obtain ⟨a, b, d, e⟩ := h.ro o ho
  exact ⟨a, Nat.le_trans b hg.size, d, d.keep hg (fun q e => .inl (by injection e with e; have := h.pw; omega)) e⟩
 pr := h.pr
theorem Mx.box (h : Mx w P Q bs os W) {X : Nat} (hX : X = W.heap.size) (cs : Array Value) (t : TypeId) : Mx w P Q ((X, cs, t) :: bs) os (W.alloc (.cells cs t)) := by
 have hb := below_box W (.cells cs t)
 have h1 := h.below hb
 refine ⟨h1.ps, h1.pk, h1.gr, h1.pw, fun x hx => ?_, ?_, fun o ho => ?_, h.pr⟩
 ·rcases List.mem_cons.1 hx with rfl | hx
  ·exact ⟨new_at hX.symm, by rw [hX]; exact h.gr.size⟩
  ·exact h1.bl x hx
 ·rw [List.map_cons, List.nodup_cons]
  refine ⟨fun hm => ?_, h.nd⟩
  have h2 := (h.lts hm).2
  have h3 : X = W.heap.size := hX
  simp only at h2
  omega
 ·obtain ⟨a, b, d, e⟩ := h.ro o ho
  exact ⟨a, Nat.le_trans b hb.size, d, d.keep (gr_below hb none) (fun _ e => by cases e) (d.more (by omega) e)⟩
theorem Mx.set (h : Mx w P Q bs os W) (i : Nat) {X : Nat} {cs cs' : Array Value} {t : TypeId} (hi : bs[i]? = some (X, cs, t)) (hg : W.grownBy W' (some X)) (hn : W'.heap[X]? = some (.cells cs' t (0, 0))) : Mx w P Q (bs.set i (X, cs', t)) os W' := by
 have hl := h.lt i hi
 have hP := h.pw
 have hil : i < bs.length := (List.getElem?_eq_some_iff.1 hi).1
 have hXm : X ∈ bs.map Prod.fst := List.mem_map.2 ⟨_, List.mem_of_getElem? hi, rfl⟩
 have hf : (bs.set i (X, cs', t)).map Prod.fst = bs.map Prod.fst := by
  rw [List.map_set]
  refine List.ext_getElem? fun j => ?_
  rw [List.getElem?_set]
  by_cases hij : i = j
  ·subst hij
   rw [if_pos rfl, if_pos (by rw [List.length_map]; exact hil), List.getElem?_map, hi]
   rfl
  ·rw [if_neg hij]
 refine ⟨h.pk hg (fun q e => by injection e with e; omega) h.ps, h.pk, gr_new h.gr hg hl.1, h.pw, fun x hx => ?_, by rw [hf]; exact h.nd, fun o ho => ?_, h.pr⟩
 ·obtain ⟨j, hj⟩ := List.mem_iff_getElem?.1 hx
  rw [List.getElem?_set] at hj
  by_cases hij : i = j
  ·rw [if_pos hij] at hj
   split at hj
   ·cases hj
    exact ⟨hn, hl.1⟩
   ·exact absurd hil ‹_›
  ·rw [if_neg hij] at hj
   have hxb := h.bl x (List.mem_of_getElem? hj)
   refine ⟨gr_at hg hxb.1 (ne_sm (fun e => ?_)), hxb.2⟩
   have hi1 : (bs.map Prod.fst)[i]? = some X := by rw [List.getElem?_map, hi]; rfl
   have hj1 : (bs.map Prod.fst)[j]? = some X := by rw [List.getElem?_map, hj]; exact congrArg some e
   have hil2 : i < (bs.map Prod.fst).length := by rw [List.length_map]; exact hil
   exact hij ((List.getElem?_inj hil2 h.nd).1 (hi1.trans hj1.symm))
 ·obtain ⟨a, b, d, e⟩ := h.ro o ho
  rw [hf]
  exact ⟨a, Nat.le_trans b hg.size, d, d.keep hg (fun q e => by injection e with e; exact .inr (e ▸ hXm)) e⟩
theorem Mx.call (h : Mx w P Q bs os W) (hg : W.grownBy W' (some P)) (hk : ∀ {U U' : World} {row : Option Nat}, U.grownBy U' row → (∀ q, row = some q → w.heap.size ≤ q) → Q' U → Q' U') (hp : Q' W') {o : Im} (hI : It o) (hB : o.B = W.heap.size) (hr : o.r o.B [] W') : Mx w P Q' bs (o :: os) W' := by
 have h1 := h.par hg hk hp
 refine ⟨h1.ps, h1.pk, h1.gr, h1.pw, h1.bl, h1.nd, fun p hp => ?_, List.pairwise_cons.2 ⟨fun p hp => ?_, h1.pr⟩⟩
 ·rcases List.mem_cons.1 hp with rfl | hp
  ·exact ⟨by rw [hB]; exact h.le, by rw [hB]; exact hg.size, hI, hI.wk hr (fun q hq => .inl (by rw [hB]; exact (h.lts hq).2))⟩
  ·exact h1.ro p hp
 ·obtain ⟨a, b, d, e⟩ := h.ro p hp
  exact ⟨by rw [hB]; exact b, fun q hq => by rw [hB]; exact (d.own e hq).2.1⟩
theorem Mx.add (h : Mx w P Q bs os W) {o : Im} (hI : It o) (hB : o.B = W.heap.size) (hr : o.r o.B [] W) : Mx w P Q bs (o :: os) W := h.call (gr_refl _ _) h.pk h.ps hI hB hr
theorem Mx.sub {bs' : List Bk} (h : Mx w P Q bs os W) (hs : bs'.Sublist bs) : Mx w P Q bs' os W :=
 ⟨h.ps, h.pk, h.gr, h.pw, fun x hx => h.bl x (hs.subset hx), h.nd.sublist (hs.map _), fun o ho => by
  obtain ⟨a, b, d, e⟩ := h.ro o ho
  exact ⟨a, b, d, d.wk e (fun q hq => .inr ((hs.map Prod.fst).subset hq))⟩, h.pr⟩
theorem Mx.tl {x : Bk} (h : Mx w P Q (x :: bs) os W) : Mx w P Q bs os W := h.sub (List.sublist_cons_self ..)
theorem Mx.ot {o : Im} (h : Mx w P Q bs (o :: os) W) : Mx w P Q bs os W :=
 ⟨h.ps, h.pk, h.gr, h.pw, h.bl, h.nd, fun p hp => h.ro p (List.mem_cons_of_mem _ hp), (List.pairwise_cons.1 h.pr).2⟩
theorem Mx.vb (h : Mx w P Q bs os W) (i : Nat) {X : Nat} {cs : Array Value} {t : TypeId} (hi : bs[i]? = some (X, cs, t)) : (hide (upL w.heap.size []) W).heap[X]? = some (.cells cs t (0, 0)) :=
 (hide_heap (upL_ge (h.lt i hi).1 (by intro h; cases h))).trans (h.b i hi)
theorem Mx.vo (h : Mx w P Q bs os W) (i : Nat) {o : Im} (hi : os[i]? = some o) : o.fr (hide (upL w.heap.size []) W) := by
 obtain ⟨a, _, d, e⟩ := h.ro o (List.mem_of_getElem? hi)
 exact d.fin e (fun q hq => by
  rcases hq with hq | hq
  ·exact .inl (by omega)
  ·cases hq)
theorem Mx.fold {X : Nat} {cs : Array Value} {t : TypeId} (h : Mx w P Q ((X, cs, t) :: bs) os W) {rd : World → Prop} (hm : Mn rd) (hr : ∀ U : World, U.heap[X]? = some (.cells cs t (0, 0)) → (∀ (j : Nat) {o : Im}, os[j]? = some o → o.fr U) → rd U) : Mx w P Q bs [im w.heap.size rd] W := by
 have h2 := h.tl
 have hX : X ∉ bs.map Prod.fst := (List.nodup_cons.1 (by have := h.nd; rw [List.map_cons] at this; exact this)).1
 refine ⟨h2.ps, h2.pk, h2.gr, h2.pw, h2.bl, h2.nd, fun o ho => ?_, List.pairwise_singleton ..⟩
 rw [List.mem_singleton.1 ho]
 refine ⟨Nat.le_refl _, h.le, im_it hm, hr _ ((hide_heap (upL_ge (h.lt 0 rfl).1 hX)).trans (h.b 0 rfl)) (fun j o ho => ?_)⟩
 obtain ⟨a, _, d, e⟩ := h2.ro o (List.mem_of_getElem? ho)
 exact d.fin e (fun q hq => by
  rcases hq with hq | hq
  ·exact .inl (Nat.lt_of_lt_of_le hq a)
  ·exact .inr hq)
theorem Mx.join {B1 B2 : Nat} {r1 r2 rd : World → Prop} (h : Mx w P Q bs (im B1 r1 :: im B2 r2 :: os) W) (hm : Mn rd) (hr : ∀ U, r1 U → r2 U → rd U) : Mx w P Q bs (im B2 rd :: os) W := by
 obtain ⟨a1, b1, d1, e1⟩ := h.ro _ (List.mem_cons_self ..)
 obtain ⟨a2, b2, d2, e2⟩ := h.ro _ (List.mem_cons_of_mem _ (List.mem_cons_self ..))
 have hp := List.pairwise_cons.1 h.pr
 have hB : B2 ≤ B1 := (hp.1 _ (List.mem_cons_self ..)).1
 have h1 : r1 (hide (upL B2 (bs.map Prod.fst)) W) := d1.fin e1 (fun q hq => by
  rcases hq with hq | hq
  ·exact .inl (Nat.lt_of_lt_of_le hq hB)
  ·exact .inr hq)
 refine ⟨h.ps, h.pk, h.gr, h.pw, h.bl, h.nd, fun o ho => ?_, List.pairwise_cons.2 ⟨(List.pairwise_cons.1 hp.2).1, (List.pairwise_cons.1 hp.2).2⟩⟩
 rcases List.mem_cons.1 ho with rfl | ho
 ·exact ⟨a2, b2, im_it hm, hr _ h1 e2⟩
 ·exact h.ro o (List.mem_cons_of_mem _ (List.mem_cons_of_mem _ ho))
theorem Mx.nil {α β : Type} {f : α → List Value} {k : Nat} {t te : TypeId} {ok : World → α → Prop} {rl : World → Value → List β → Prop} {g : α → β} (T : TK f k t te ok rl g) (h : Mx w P Q bs os W) : Mx w P Q bs (imR T W.heap.size (.slice none 0 0) [] :: os) W := h.add (imR_it T) rfl .nil
end
section
variable {α β : Type} {f : α → List Value} {kk : Nat} {t te : TypeId} {ok : World → α → Prop} {rl : World → Value → List β → Prop} {g : α → β}
variable {P : Nat} {w W W' : World} {Q Q' : World → Prop} {bs : List Bk} {os : List Im}
theorem Mx.news {T : TK f kk t te ok rl g} {B C : Nat} {v : Value} {tr : List α} {x : α} (h : Mx w P Q bs (im C (fun U => ok U x) :: imR T B v tr :: os) W) : ∀ y ∈ [x], ok (hide (upL B (bs.map Prod.fst ++ ownL v)) W) y := by
 intro y hy
 rw [List.mem_singleton.1 hy]
 have hp := (List.pairwise_cons.1 h.pr).1 _ (List.mem_cons_self ..)
 exact new_reads T.mono hp.2 (h.o 0 rfl) hp.1 (fun q hq => .inr hq)
theorem Mx.pushed {T : TK f kk t te ok rl g} {B : Nat} {v v' : Value} {tr tr' : List α} (h : Mx w P Q bs [imR T B v tr] W) (hg : W.grownBy W' v.ownBlock) (hr : RowOk f kk t ok B (bs.map Prod.fst) W' v' tr') : Mx w P Q bs [imR T B v' tr'] W' := by
 obtain ⟨a, b, d, e⟩ := h.ro _ (List.mem_cons_self ..)
 have ho : ∀ q, v.ownBlock = some q → B ≤ q ∧ q < W.heap.size ∧ q ∉ bs.map Prod.fst := fun q hq => d.own e hq
 have a' : w.heap.size ≤ B := a
 refine ⟨h.pk hg (fun q hq => by have := (ho q hq).1; omega) h.ps, h.pk, gr_row h.gr hg (fun q hq => by have := (ho q hq).1; omega), h.pw, fun x hx => ⟨gr_at hg (h.bl x hx).1 (fun e => ?_), (h.bl x hx).2⟩, h.nd, fun o ho => ?_, List.pairwise_singleton ..⟩
 ·exact (ho x.1 e.symm).2.2 (List.mem_map.2 ⟨x, hx, rfl⟩)
 ·rw [List.mem_singleton.1 ho]
  exact ⟨a, Nat.le_trans b hg.size, imR_it T, hr⟩
theorem Mx.run_push {T : TK f kk t te ok rl g} {B C : Nat} {v : Value} {tr : List α} {x : α} {G : Nat} {cs : Array Value} (h : Mx w P Q ((G, cs, t) :: bs) [im C (fun U => ok U x), imR T B v tr] W) (hcs : cs.toList = f x) (hlen : tr.length ≤ 1000000) (ty : TypeId) :
 ∃ v' W', (Builtin.append_ #[te, te] ty #[v, .slice (some ⟨G, 0, none⟩) 1 1]).run Tryz.prog W = .ok v' W' ∧ ∃ p c, v' = .slice p (tr.length + 1) c ∧ Mx w P Q bs [imR T B v' (tr ++ [x])] W' := by
 obtain ⟨i, z, hi, hz, hs, hb, hc⟩ := T.inf
 have hm : (tr.length + [x].length) * i.bytes ≤ 140737488355328 := Nat.le_trans (Nat.mul_le_mul (show tr.length + 1 ≤ 1000001 by omega) hb) (by decide)
 have hn := h.news
 have h2 := h.ot
 obtain ⟨_, b, _, e⟩ := h2.ro _ (List.mem_cons_self ..)
 have e' : RowOk f kk t ok B (((G, cs, t) :: bs).map Prod.fst) W v tr := e
 obtain ⟨v', W', h3, h4, h5⟩ := Go.Proofs.YtdckddkalgnlpaaGreatDoor.run_push (P := Tryz.prog) T.len T.mono te ty i z i.bytes T.und hi hz hs rfl hc T.pos e' (.slice (some ⟨G, 0, none⟩) 1 1) [x] (SrcAt.of_blk (h.b 0 rfl) hcs) hn (fun a ha => by rw [List.mem_singleton.1 ha]; exact T.one (hn x (List.mem_singleton.2 rfl))) (by simp only [List.length_cons, List.length_nil]; unfold maxLen; omega) hm b (fun q hq => (h.lts hq).2)
 obtain ⟨p, cp, h6⟩ := own_form h4.own
 rw [List.length_append] at h6
 exact ⟨v', W', h3, p, cp, h6, (h2.pushed h5 h4).tl⟩
theorem Mx.run_app {T : TK f kk t te ok rl g} {x : α} {G : Nat} {cs : Array Value} {tr : List α} {v2 : Value} {B2 C : Nat} (h : Mx w P Q ((G, cs, t) :: bs) os W) (i : Nat) (hi : os[i]? = some (im C (fun U => ok U x))) (j : Nat) (hj : os[j]? = some (imR T B2 v2 tr)) (hcs : cs.toList = f x) (hlen : tr.length ≤ 1000000) (ty : TypeId) :
 ∃ v' W', (Builtin.append_ #[te, te] ty #[.slice (some ⟨G, 0, none⟩) 1 1, v2]).run Tryz.prog W = .ok v' W' ∧ ∃ p c, v' = .slice p (tr.length + 1) c ∧ Mx w P Q bs [imR T w.heap.size v' (x :: tr)] W' := by
 obtain ⟨ii, z, hi1, hz, hs, hb, hc⟩ := T.inf
 have hm : ([x].length + tr.length) * ii.bytes ≤ 140737488355328 := Nat.le_trans (Nat.mul_le_mul (show 1 + tr.length ≤ 1000001 by omega) hb) (by decide)
 have h2 := h.tl
 have hG := h.lt 0 rfl
 have hX : G ∉ bs.map Prod.fst := (List.nodup_cons.1 (by have := h.nd; rw [List.map_cons] at this; exact this)).1
 have hin : ∀ q, q < w.heap.size ∨ q ∈ bs.map Prod.fst ++ [G] → ∀ o ∈ os, q < o.B ∨ q ∈ ((G, cs, t) :: bs).map Prod.fst := by
  intro q hq o ho
  rcases hq with hq | hq
  ·exact .inl (Nat.lt_of_lt_of_le hq (h.ro o ho).1)
  ·rw [List.map_cons]
   rcases List.mem_append.1 hq with hq | hq
   ·exact .inr (List.mem_cons_of_mem _ hq)
   ·rw [List.mem_singleton.1 hq]
    exact .inr (List.mem_cons_self ..)
 have hx1 : ok (hide (upL w.heap.size (bs.map Prod.fst ++ [G])) W) x := T.mono _ _ _ (up_mono (fun q _ hq => hin q hq _ (List.mem_of_getElem? hi))) (h.o i hi)
 have hrow := RowOk.lit (f := f) (k := kk) (ok := ok) (B := w.heap.size) (l := bs.map Prod.fst) (h.b 0 rfl) hcs (T.len x) hG.1 hX hx1
 have hr2 : RowOk f kk t ok B2 (((G, cs, t) :: bs).map Prod.fst) W v2 tr := h.o j hj
 have hnews : ∀ y ∈ tr, ok (hide (upL w.heap.size (bs.map Prod.fst ++ ownL (.slice (some ⟨G, 0, none⟩) 1 1))) W) y := fun y hy => T.mono _ _ _ (up_mono (fun q _ hq => by
  rcases hin q hq _ (List.mem_of_getElem? hj) with h3 | h3
  ·exact .inl h3
  ·exact .inr (List.mem_append.2 (.inl h3)))) (hr2.rd y hy)
 obtain ⟨v', W', h3, h4, h5⟩ := Go.Proofs.YtdckddkalgnlpaaGreatDoor.run_push (P := Tryz.prog) T.len T.mono te ty ii z ii.bytes T.und hi1 hz hs rfl hc T.pos hrow v2 tr hr2.src hnews (fun a ha => T.one (hnews a ha)) (by show 1 + tr.length ≤ maxLen; unfold maxLen; omega) hm h.le (fun q hq => (h2.lts hq).2)
 obtain ⟨p, cp, h6⟩ := own_form h4.own
 have e1 : ([x] ++ tr).length = tr.length + 1 := by simp
 rw [e1] at h6
 have hg : W.grownBy W' (some G) := h5
 refine ⟨v', W', h3, p, cp, h6, h2.pk hg (fun q e => by injection e with e; omega) h2.ps, h2.pk, gr_new h2.gr hg hG.1, h2.pw, fun y hy => ⟨gr_at hg (h2.bl y hy).1 (ne_sm (fun e => hX (List.mem_map.2 ⟨y, hy, e⟩))), (h2.bl y hy).2⟩, h2.nd, fun o ho => ?_, List.pairwise_singleton ..⟩
 rw [List.mem_singleton.1 ho]
 exact ⟨Nat.le_refl _, Nat.le_trans h.le hg.size, imR_it T, h4⟩
end
end Go.Proofs.YtdckddkalgnlpaaGreatDoor
namespace Go.Proofs.YtdckddkalgnlpaaGreatDoor
section
variable {P : Program} {ops : Array Oper} {Q : Exit → Act → World → Prop} {md : Region.Mode} {S : World → Prop} {fuel : Nat} {listed : Array Bool} {a : Act} {w : World} {x1 : Op} {x2 : TypeId} {x3 : String} {x4 : Array Edge} {x5 : Option (Nat × Bool)} {y1 : Op} {y2 : TypeId} {y3 : String} {y4 : Array Edge} {y5 : Option (Nat × Bool)}
theorem rT (i : Nat) (d : Option Nat) {v : Value} (h : wpAnyH P md ops Q S fuel (listed.setIfInBounds i true) (a.put d v) w)
 (hi : ops[i]? = some ⟨d, x1, x2, x3, x4, x5⟩ := by rfl) (hw : Region.wanted ⟨d, x1, x2, x3, x4, x5⟩ (yielded ops a.tmps) = true := by rfl)
 (hv : ∀ w, S w → (execOp a.eval ⟨d, x1, x2, x3, x4, x5⟩).run P w = .ok (.value v) w := by intro w hSw; (try dsimp only at hSw); go_simp; (try with_reducible rfl))
 (hs : Region.noSelect ops = true := by kernel_rfl) (hf : Region.free md ops listed i = true := by kernel_rfl) (hr : (Region.ready md ops listed).contains i = true := by kernel_rfl)
 (hQ : ∀ c a w, Q (.panic c) (a.put d v) w → Q (.panic c) a w := by exact fun _ _ _ h => h) (hS : S w := by first | trivial | assumption) : wpAnyH P md ops Q S (fuel + 1) listed a w :=
 wpAnyH_take hi hs hf hr hQ (Or.inl ⟨hw, hv⟩) hS h
theorem rK (i : Nat) (d : Option Nat) (h : wpAnyH P md ops Q S fuel (listed.setIfInBounds i true) (a.put d undef) w)
 (hi : ops[i]? = some ⟨d, x1, x2, x3, x4, x5⟩ := by rfl) (hw : Region.wanted ⟨d, x1, x2, x3, x4, x5⟩ (yielded ops a.tmps) = false := by rfl)
 (hs : Region.noSelect ops = true := by kernel_rfl) (hf : Region.free md ops listed i = true := by kernel_rfl) (hr : (Region.ready md ops listed).contains i = true := by kernel_rfl)
 (hQ : ∀ c a w, Q (.panic c) (a.put d undef) w → Q (.panic c) a w := by exact fun _ _ _ h => h) (hS : S w := by first | trivial | assumption) : wpAnyH P md ops Q S (fuel + 1) listed a w :=
 wpAnyH_take (v := undef) hi hs hf hr hQ (Or.inr ⟨hw, rfl⟩) hS h
theorem rR1 (i : Nat) (d : Option Nat)
 (h : ∀ K' : Act → World → Prop, Shut (∀ a w, S w → (S w → wpAnyH P md ops Q S fuel (listed.setIfInBounds i true) a w) → K' a w) → if Region.wanted ⟨d, x1, x2, x3, x4, x5⟩ (yielded ops a.tmps) = true then Oper.wp P ⟨d, x1, x2, x3, x4, x5⟩ a w K' Q else K' (a.put d undef) w)
 (hr : Region.ready md ops listed = [i] := by kernel_rfl) (hi : ops[i]? = some ⟨d, x1, x2, x3, x4, x5⟩ := by rfl) : wpAnyH P md ops Q S (fuel + 1) listed a w :=
 wpAnyH_ready hr (by simp) (AllReadyH.cons hi h AllReadyH.nil)
theorem rR2 (i : Nat) (d : Option Nat) (j : Nat) (d' : Option Nat)
 (h : ∀ K' : Act → World → Prop, Shut (∀ a w, S w → (S w → wpAnyH P md ops Q S fuel (listed.setIfInBounds i true) a w) → K' a w) → if Region.wanted ⟨d, x1, x2, x3, x4, x5⟩ (yielded ops a.tmps) = true then Oper.wp P ⟨d, x1, x2, x3, x4, x5⟩ a w K' Q else K' (a.put d undef) w)
 (h' : ∀ K' : Act → World → Prop, Shut (∀ a w, S w → (S w → wpAnyH P md ops Q S fuel (listed.setIfInBounds j true) a w) → K' a w) → if Region.wanted ⟨d', y1, y2, y3, y4, y5⟩ (yielded ops a.tmps) = true then Oper.wp P ⟨d', y1, y2, y3, y4, y5⟩ a w K' Q else K' (a.put d' undef) w)
 (hr : Region.ready md ops listed = [i, j] := by kernel_rfl) (hi : ops[i]? = some ⟨d, x1, x2, x3, x4, x5⟩ := by rfl) (hj : ops[j]? = some ⟨d', y1, y2, y3, y4, y5⟩ := by rfl) : wpAnyH P md ops Q S (fuel + 1) listed a w :=
 wpAnyH_ready hr (by simp) (AllReadyH.cons hi h (AllReadyH.cons hj h' AllReadyH.nil))
theorem q0 {α : Type} (l : List α) (i : Nat) (x : α) : l.toArray.setIfInBounds i x = (l.set i x).toArray := List.setIfInBounds_toArray ..
theorem q1 {α : Type} (x y : α) (l : List α) : (x :: l).set 0 y = y :: l := List.set_cons_zero ..
theorem q2 {α : Type} (x y : α) (l : List α) (i : Nat) : (x :: l).set (i + 1) y = x :: l.set i y := List.set_cons_succ ..
end
end Go.Proofs.YtdckddkalgnlpaaGreatDoor
