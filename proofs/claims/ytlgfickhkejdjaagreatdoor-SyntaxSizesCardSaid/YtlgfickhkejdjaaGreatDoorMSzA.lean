/-
  Several texts in one: RegInv, SzJ.
-/
import Derived.OrdersHeld
import Derived.Test.YtlgfickhkejdjaaGreatDoorMSyOne
import Derived.IntWalk
import Derived.Test.YtlgfickhkejdjaaGreatDoorMSyParen
namespace Go.Proofs.YtlgfickhkejdjaaGreatDoor
section
variable {P : Program} {ops : Array Oper} {Q : Exit → Act → World → Prop} {md : Region.Mode} {S : World → Prop}
def updB (b : Nat → Bool) (i : Nat) : Nat → Bool := fun j => if j = i then true else b j
def updS (s : Nat → Value) (i : Nat) (v : Value) : Nat → Value := fun j => if j = i then v else s j
theorem getD_false_lt {l : Array Bool} {i : Nat} (h : l.getD i true = false) : i < l.size ∧ l.getD i false = false := by
  rcases Nat.lt_or_ge i l.size with hlt | hge
  · refine ⟨hlt, ?_⟩
    simp [hlt] at h ⊢
    exact h
  · simp [Array.getElem?_eq_none hge] at h
theorem cnt_set {l : Array Bool} {i : Nat} (h : l.getD i true = false) : (l.setIfInBounds i true).toList.count false + 1 = l.toList.count false := by
  obtain ⟨hlt, _⟩ := getD_false_lt h
  have hv : l[i] = false := by simpa [hlt] using h
  rw [Array.setIfInBounds_def, dif_pos hlt, Array.toList_set, List.count_set (by simpa using hlt)]
  have hp : 0 < l.toList.count false := List.count_pos_iff.2 (by rw [← hv]; simp)
  have e1 : (l.toList[i]'(by simpa using hlt) == false) = true := by simp [hv]
  rw [e1]
  show l.toList.count false - 1 + 0 + 1 = l.toList.count false
  omega
theorem getD_upd {l : Array Bool} {i : Nat} (h : l.getD i true = false) : (fun j => (l.setIfInBounds i true).getD j false) = updB (fun j => l.getD j false) i := by
  obtain ⟨hlt, _⟩ := getD_false_lt h
  funext j
  unfold updB
  by_cases hj : j = i
  · subst hj
    rw [if_pos rfl]
    simp [hlt]
  · rw [if_neg hj]
    exact getD_set_ne false (fun e => hj e.symm)
theorem ready_nil {l : Array Bool} (h : l.toList.count false = 0) : Region.ready md ops l = [] := by
  rw [List.eq_nil_iff_forall_not_mem]
  intro i hi
  obtain ⟨hlt, _⟩ := getD_false_lt (mem_ready.1 hi).1
  have hv : l[i] = false := by simpa [hlt] using (mem_ready.1 hi).1
  have hp : 0 < l.toList.count false := List.count_pos_iff.2 (by rw [← hv]; simp)
  omega
/-- nothing may come up any more: all have come up -/
theorem all_listed {l : Array Bool} (hs : l.size = ops.size) (hac : ∀ (i : Nat) (o : Oper), ops[i]? = some o → ∀ e ∈ o.after, e.on < i) (h : Region.ready md ops l = []) : ∀ i, i < ops.size → l.getD i false = true := by
  intro i
  induction i using Nat.strongRecOn with
  | _ i ih =>
    intro hi
    cases hc : l.getD i false with
    | true => rfl
    | false =>
      exfalso
      have hlt : i < l.size := by omega
      have hc' : l.getD i true = false := by simp [hlt] at hc ⊢; exact hc
      have : i ∈ Region.ready md ops l := mem_ready.2 ⟨hc', ops[i], by simp [hi], fun e he _ => ih e.on (hac i ops[i] (by simp [hi]) e he) (by have := hac i ops[i] (by simp [hi]) e he; omega)⟩
      rw [h] at this
      cases this
def acycB (ops : Array Oper) : Bool := (List.range ops.size).all fun i => ((ops[i]?).map fun o => o.after.all fun e => decide (e.on < i)).getD true
theorem acyc_of (h : acycB ops = true) : ∀ (i : Nat) (o : Oper), ops[i]? = some o → ∀ e ∈ o.after, e.on < i := by
  intro i o ho e he
  unfold acycB at h
  rw [List.all_eq_true] at h
  have h1 := h i (List.mem_range.2 (Array.getElem?_eq_some_iff.1 ho).1)
  rw [ho] at h1
  simp only [Option.map_some, Option.getD_some] at h1
  rw [Array.all_eq_true_iff_forall_mem] at h1
  exact of_decide_eq_true (h1 e he)
/-- the operations that number i waits for have come up -/
def depsB (md : Region.Mode) (ops : Array Oper) (b : Nat → Bool) (i : Nat) : Bool := ((ops[i]?).map fun o => o.after.all fun e => !Region.binds md e || b e.on).getD false
theorem wpAnyH_steps (J : (Nat → Bool) → Act → World → Prop) (hac : acycB ops = true) (hS : ∀ b a w, J b a w → S w)
    (hstep : ∀ b a w, J b a w → ∀ i, i < ops.size → b i = false → depsB md ops b i = true → wpOp P ops Q i (fun a' w' => J (updB b i) a' w') a w)
    (hend : ∀ b a w, J b a w → (∀ i, i < ops.size → b i = true) → Q .normal a w) :
    ∀ (fuel : Nat) (l : Array Bool) (a : Act) (w : World), l.size = ops.size → l.toList.count false ≤ fuel → J (fun j => l.getD j false) a w → wpAnyH P md ops Q S fuel l a w
  | 0, l, a, w, hs, hc, h => by
    have hr : Region.ready md ops l = [] := ready_nil (by omega)
    exact ⟨hr, hend _ a w h (all_listed hs (acyc_of hac) hr)⟩
  | f + 1, l, a, w, hs, hc, h => by
    refine ⟨fun hr => hend _ a w h (all_listed hs (acyc_of hac) hr), fun i hi => ?_⟩
    obtain ⟨hn, o, ho, hd⟩ := mem_ready.1 hi
    have hd' : depsB md ops (fun j => l.getD j false) i = true := by
      unfold depsB
      rw [ho]
      simp only [Option.map_some, Option.getD_some]
      rw [Array.all_eq_true_iff_forall_mem]
      intro e he
      cases hb : Region.binds md e with
      | false => rfl
      | true => exact hd e he hb
    have h1 := hstep _ a w h i (Array.getElem?_eq_some_iff.1 ho).1 (getD_false_lt hn).2 hd'
    refine wpOp_mono (fun a' w' h' => ?_) h1
    rw [← getD_upd hn] at h'
    have hcs := cnt_set hn
    exact ⟨hS _ _ _ h', wpAnyH_steps J hac hS hstep hend f _ a' w' (by rw [Array.size_setIfInBounds]; exact hs) (by omega) h'⟩
end
end Go.Proofs.YtlgfickhkejdjaaGreatDoor

namespace Go.Proofs.YtlgfickhkejdjaaGreatDoor
open Go.RowKit Go.Maps

def AtB (W : World) (v : Value) (n : Nat) (cs : Array Value) (t : TypeId) : Prop := ∃ g, v = .slice (some ⟨g, 0, none⟩) n n ∧ W.heap[g]? = some (.cells cs t (0, 0))
theorem old_alloc (W : World) (o : Obj) {g : Nat} (h : g < W.heap.size) : (W.alloc o).heap[g]? = W.heap[g]? := ((Below.refl W.heap.size W).alloc (Nat.le_refl _) o).block g h
theorem AtB.alloc {W : World} {v : Value} {n : Nat} {cs : Array Value} {t : TypeId} (h : AtB W v n cs t) (o : Obj) : AtB (W.alloc o) v n cs t := by
  obtain ⟨g, e, hg⟩ := h
  exact ⟨g, e, (old_alloc W o (lt_of_block hg)).trans hg⟩
theorem AtB.new (W : World) (n : Nat) (cs : Array Value) (t : TypeId) : AtB (W.alloc (.cells cs t)) (.slice (some ⟨W.heap.size, 0, none⟩) n n) n cs t := ⟨_, rfl, (MapKept.heap_alloc W _).1⟩
theorem own_base {W : World} {base base' : Nat} {e : TypeId} {size n : Nat} {v : Value} {xs : List Value} (h : W.ownsRow base e size v n xs) (hb : base' ≤ base) : W.ownsRow base' e size v n xs := by
  refine ⟨h.1, ?_⟩
  rcases h.2 with hn | ⟨g, cap, cur, rfl, h1, rest⟩
  · exact .inl hn
  · exact .inr ⟨g, cap, cur, rfl, by omega, rest⟩
theorem own_type {W : World} {base : Nat} {e : TypeId} {size n : Nat} {v : Value} {xs : List Value} (h : W.ownsRow base e size v n xs) {g : Nat} {cs : Array Value} {t : TypeId} (hg : W.heap[g]? = some (.cells cs t (0, 0))) (ht : t ≠ e) : v.ownBlock ≠ some g := by
  intro hq
  obtain ⟨_, cur, hc⟩ := own_ge h hq
  rw [hc] at hg
  injection hg with hg
  injection hg with _ h2 _
  exact ht h2.symm
theorem AtB.grown {W W' : World} {v u : Value} {n : Nat} {cs : Array Value} {t : TypeId} (h : AtB W v n cs t) {base m : Nat} {xs : List Value} (ho : W.ownsRow base 52 4 u m xs) (hg : W.grownBy W' u.ownBlock) (ht : t ≠ 52) : AtB W' v n cs t := by
  obtain ⟨g, e, hb⟩ := h
  exact ⟨g, e, (hg.block g (lt_of_block hb) (fun e => own_type ho hb ht e.symm)).trans hb⟩
theorem AtB.store {W : World} {v u : Value} {n g : Nat} {cs : Array Value} {t : TypeId} (h : AtB W v n cs t) {cs2 : Array Value} (h2 : W.heap[g]? = some (.cells cs2 32 (0, 0))) (ht : t ≠ 32) : AtB (W.setCell ⟨g, 0, none⟩ u) v n cs t := by
  obtain ⟨k, e, hb⟩ := h
  have hne : k ≠ g := fun e => by
    subst e
    rw [hb] at h2
    injection h2 with h2
    injection h2 with _ h3 _
    exact ht h3
  exact ⟨k, e, ((grown_setCell W g 0 u).block k (lt_of_block hb) (fun e => hne (by cases e; rfl))).trans hb⟩
def zBody (e : Tr.E) : List Tr.S := [.mk 4 ⟨#[]⟩ [e] [.mk 9 ⟨#[]⟩ [] [] []] []]
def zClass (e : Tr.E) : Tr.C := ⟨⟨#[90]⟩, true, [], [⟨⟨#[109]⟩, [⟨#[97]⟩, ⟨#[98]⟩], zBody e⟩]⟩
section
variable (ze : Tr.E)
def zRow (v : Value) : CT := (zClass ze, .slice none 0 0, v)
structure SzJ (rows : List CT) (ec : Array Value) (w0 : World) (b : Nat → Bool) (s : Nat → Value) (W : World) : Prop where
  below : Below w0.heap.size w0 W
  c_3_0 : b 3 = true → b 0 = true
  c_9_6 : b 9 = true → b 6 = true
  c_9_8 : b 9 = true → b 8 = true
  c_10_6 : b 10 = true → b 6 = true
  c_10_8 : b 10 = true → b 8 = true
  c_10_9 : b 10 = true → b 9 = true
  c_11_4 : b 11 = true → b 4 = true
  c_11_6 : b 11 = true → b 6 = true
  c_11_8 : b 11 = true → b 8 = true
  c_11_9 : b 11 = true → b 9 = true
  c_11_10 : b 11 = true → b 10 = true
  c_12_4 : b 12 = true → b 4 = true
  c_12_6 : b 12 = true → b 6 = true
  c_12_8 : b 12 = true → b 8 = true
  c_12_9 : b 12 = true → b 9 = true
  c_12_10 : b 12 = true → b 10 = true
  c_12_11 : b 12 = true → b 11 = true
  c_13_4 : b 13 = true → b 4 = true
  c_13_6 : b 13 = true → b 6 = true
  c_13_8 : b 13 = true → b 8 = true
  c_13_9 : b 13 = true → b 9 = true
  c_13_10 : b 13 = true → b 10 = true
  c_13_11 : b 13 = true → b 11 = true
  c_13_12 : b 13 = true → b 12 = true
  c_14_4 : b 14 = true → b 4 = true
  c_14_6 : b 14 = true → b 6 = true
  c_14_8 : b 14 = true → b 8 = true
  c_14_9 : b 14 = true → b 9 = true
  c_14_10 : b 14 = true → b 10 = true
  c_14_11 : b 14 = true → b 11 = true
  c_14_12 : b 14 = true → b 12 = true
  c_14_13 : b 14 = true → b 13 = true
  c_15_0 : b 15 = true → b 0 = true
  c_15_3 : b 15 = true → b 3 = true
  c_15_4 : b 15 = true → b 4 = true
  c_15_6 : b 15 = true → b 6 = true
  c_15_8 : b 15 = true → b 8 = true
  c_15_9 : b 15 = true → b 9 = true
  c_15_10 : b 15 = true → b 10 = true
  c_15_11 : b 15 = true → b 11 = true
  c_15_12 : b 15 = true → b 12 = true
  c_15_13 : b 15 = true → b 13 = true
  c_15_14 : b 15 = true → b 14 = true
  c_16_0 : b 16 = true → b 0 = true
  c_16_3 : b 16 = true → b 3 = true
  c_16_4 : b 16 = true → b 4 = true
  c_16_6 : b 16 = true → b 6 = true
  c_16_8 : b 16 = true → b 8 = true
  c_16_9 : b 16 = true → b 9 = true
  c_16_10 : b 16 = true → b 10 = true
  c_16_11 : b 16 = true → b 11 = true
  c_16_12 : b 16 = true → b 12 = true
  c_16_13 : b 16 = true → b 13 = true
  c_16_14 : b 16 = true → b 14 = true
  c_16_15 : b 16 = true → b 15 = true
  c_18_0 : b 18 = true → b 0 = true
  c_18_3 : b 18 = true → b 3 = true
  c_18_4 : b 18 = true → b 4 = true
  c_18_6 : b 18 = true → b 6 = true
  c_18_8 : b 18 = true → b 8 = true
  c_18_9 : b 18 = true → b 9 = true
  c_18_10 : b 18 = true → b 10 = true
  c_18_11 : b 18 = true → b 11 = true
  c_18_12 : b 18 = true → b 12 = true
  c_18_13 : b 18 = true → b 13 = true
  c_18_14 : b 18 = true → b 14 = true
  c_18_15 : b 18 = true → b 15 = true
  c_18_16 : b 18 = true → b 16 = true
  c_18_17 : b 18 = true → b 17 = true
  f0 : b 0 = true → b 3 = false → W.ownsRow w0.heap.size 52 4 (s 35) ([] : List CT).length (flatV cCells [])
  f3 : b 3 = true → b 15 = false → W.ownsRow w0.heap.size 52 4 (s 38) rows.length (flatV cCells rows)
  f4 : b 4 = true → AtB W (s 39) 2 #[.string ⟨#[97]⟩, .string ⟨#[98]⟩] 9
  f6 : b 6 = true → AtB W (s 41) 1 ec 24
  f8 : b 8 = true → AtB W (s 43) 1 #[.int .i64 9, .string ⟨#[]⟩, .slice none 0 0, .slice none 0 0, .slice none 0 0] 46
  f9 : b 9 = true → s 44 = .agg #[.int .i64 4, .string ⟨#[]⟩, s 41, s 43, .slice none 0 0]
  f10 : b 10 = true → AtB W (s 45) 1 #[.int .i64 4, .string ⟨#[]⟩, s 41, s 43, .slice none 0 0] 46
  f11 : b 11 = true → s 46 = .agg #[.string ⟨#[109]⟩, s 39, s 45]
  f12 : b 12 = true → AtB W (s 47) 1 #[.string ⟨#[109]⟩, s 39, s 45] 49
  f13 : b 13 = true → s 48 = .agg #[.string ⟨#[90]⟩, .bool true, .slice none 0 0, s 47]
  f14 : b 14 = true → b 15 = false → ∃ g, s 49 = .slice (some ⟨g, 0, none⟩) 1 1 ∧ W.heap[g]? = some (.cells #[.string ⟨#[90]⟩, .bool true, .slice none 0 0, s 47] 52 (0, 0)) ∧ (b 0 = true → b 3 = false → (s 35).ownBlock ≠ some g)
  f15 : b 15 = true → W.ownsRow w0.heap.size 52 4 (s 50) (rows ++ [(zRow ze (s 47))]).length (flatV cCells (rows ++ [(zRow ze (s 47))]))
  f16 : b 16 = true → s 51 = .agg #[s 50]
  f17 : b 17 = true → b 18 = false → ∃ g, s 7 = .pointer (some ⟨g, 0, none⟩) ∧ W.heap[g]? = some (.cells #[.slice none 0 0] 32 (0, 0)) ∧ w0.heap.size ≤ g
  f18 : b 18 = true → ∃ g, s 7 = .pointer (some ⟨g, 0, none⟩) ∧ W.heap[g]? = some (.cells #[s 50] 32 (0, 0)) ∧ w0.heap.size ≤ g
end
variable {ze : Tr.E} {rows : List CT} {ec : Array Value} {w0 W : World} {b : Nat → Bool} {s : Nat → Value}
theorem szj_0 (J : SzJ ze rows ec w0 b s W) (hi : b 0 = false) : SzJ ze rows ec w0 (updB b 0) (updS s 35 (.slice (some ⟨W.heap.size, 0, none⟩) 0 0)) (W.alloc (.cells #[] 52)) where
  below := J.below.alloc J.below.size _
  c_3_0 := fun _ => rfl
  c_9_6 := J.c_9_6
  c_9_8 := J.c_9_8
  c_10_6 := J.c_10_6
  c_10_8 := J.c_10_8
  c_10_9 := J.c_10_9
  c_11_4 := J.c_11_4
  c_11_6 := J.c_11_6
  c_11_8 := J.c_11_8
  c_11_9 := J.c_11_9
  c_11_10 := J.c_11_10
  c_12_4 := J.c_12_4
  c_12_6 := J.c_12_6
  c_12_8 := J.c_12_8
  c_12_9 := J.c_12_9
  c_12_10 := J.c_12_10
  c_12_11 := J.c_12_11
  c_13_4 := J.c_13_4
  c_13_6 := J.c_13_6
  c_13_8 := J.c_13_8
  c_13_9 := J.c_13_9
  c_13_10 := J.c_13_10
  c_13_11 := J.c_13_11
  c_13_12 := J.c_13_12
  c_14_4 := J.c_14_4
  c_14_6 := J.c_14_6
  c_14_8 := J.c_14_8
  c_14_9 := J.c_14_9
  c_14_10 := J.c_14_10
  c_14_11 := J.c_14_11
  c_14_12 := J.c_14_12
  c_14_13 := J.c_14_13
  c_15_0 := fun _ => rfl
  c_15_3 := J.c_15_3
  c_15_4 := J.c_15_4
  c_15_6 := J.c_15_6
  c_15_8 := J.c_15_8
  c_15_9 := J.c_15_9
  c_15_10 := J.c_15_10
  c_15_11 := J.c_15_11
  c_15_12 := J.c_15_12
  c_15_13 := J.c_15_13
  c_15_14 := J.c_15_14
  c_16_0 := fun _ => rfl
  c_16_3 := J.c_16_3
  c_16_4 := J.c_16_4
  c_16_6 := J.c_16_6
  c_16_8 := J.c_16_8
  c_16_9 := J.c_16_9
  c_16_10 := J.c_16_10
  c_16_11 := J.c_16_11
  c_16_12 := J.c_16_12
  c_16_13 := J.c_16_13
  c_16_14 := J.c_16_14
  c_16_15 := J.c_16_15
  c_18_0 := fun _ => rfl
  c_18_3 := J.c_18_3
  c_18_4 := J.c_18_4
  c_18_6 := J.c_18_6
  c_18_8 := J.c_18_8
  c_18_9 := J.c_18_9
  c_18_10 := J.c_18_10
  c_18_11 := J.c_18_11
  c_18_12 := J.c_18_12
  c_18_13 := J.c_18_13
  c_18_14 := J.c_18_14
  c_18_15 := J.c_18_15
  c_18_16 := J.c_18_16
  c_18_17 := J.c_18_17
  f0 := fun _ _ => own_base (own_empty W 52 4) J.below.size
  f3 := fun h h3 => (J.f3 h h3).alloc _
  f4 := fun h => (J.f4 h).alloc _
  f6 := fun h => (J.f6 h).alloc _
  f8 := fun h => (J.f8 h).alloc _
  f9 := J.f9
  f10 := fun h => (J.f10 h).alloc _
  f11 := J.f11
  f12 := fun h => (J.f12 h).alloc _
  f13 := J.f13
  f14 := fun h h15 => by
    obtain ⟨g, e, hb, _⟩ := J.f14 h h15
    refine ⟨g, e, (old_alloc W _ (lt_of_block hb)).trans hb, fun _ _ hq => ?_⟩
    have hlt := lt_of_block hb
    have : W.heap.size = g := by injection hq
    omega
  f15 := fun h => (J.f15 h).alloc _
  f16 := J.f16
  f17 := fun h h18 => by
    obtain ⟨g, e, hb, hl⟩ := J.f17 h h18
    exact ⟨g, e, (old_alloc W _ (lt_of_block hb)).trans hb, hl⟩
  f18 := fun h => absurd (J.c_18_0 h) (by rw [hi]; decide)
theorem szj_3 (J : SzJ ze rows ec w0 b s W) (hi : b 3 = false) (d0 : b 0 = true) {v : Value} {W' : World} (ho : W'.ownsRow w0.heap.size 52 4 v rows.length (flatV cCells rows)) (hg : W.grownBy W' (s 35).ownBlock) : SzJ ze rows ec w0 (updB b 3) (updS s 38 v) W' where
  below := J.below.grown hg J.below.size (fun q hq => (own_ge (J.f0 d0 hi) hq).1)
  c_3_0 := fun _ => d0
  c_9_6 := J.c_9_6
  c_9_8 := J.c_9_8
  c_10_6 := J.c_10_6
  c_10_8 := J.c_10_8
  c_10_9 := J.c_10_9
  c_11_4 := J.c_11_4
  c_11_6 := J.c_11_6
  c_11_8 := J.c_11_8
  c_11_9 := J.c_11_9
  c_11_10 := J.c_11_10
  c_12_4 := J.c_12_4
  c_12_6 := J.c_12_6
  c_12_8 := J.c_12_8
  c_12_9 := J.c_12_9
  c_12_10 := J.c_12_10
  c_12_11 := J.c_12_11
  c_13_4 := J.c_13_4
  c_13_6 := J.c_13_6
  c_13_8 := J.c_13_8
  c_13_9 := J.c_13_9
  c_13_10 := J.c_13_10
  c_13_11 := J.c_13_11
  c_13_12 := J.c_13_12
  c_14_4 := J.c_14_4
  c_14_6 := J.c_14_6
  c_14_8 := J.c_14_8
  c_14_9 := J.c_14_9
  c_14_10 := J.c_14_10
  c_14_11 := J.c_14_11
  c_14_12 := J.c_14_12
  c_14_13 := J.c_14_13
  c_15_0 := J.c_15_0
  c_15_3 := fun _ => rfl
  c_15_4 := J.c_15_4
  c_15_6 := J.c_15_6
  c_15_8 := J.c_15_8
  c_15_9 := J.c_15_9
  c_15_10 := J.c_15_10
  c_15_11 := J.c_15_11
  c_15_12 := J.c_15_12
  c_15_13 := J.c_15_13
  c_15_14 := J.c_15_14
  c_16_0 := J.c_16_0
  c_16_3 := fun _ => rfl
  c_16_4 := J.c_16_4
  c_16_6 := J.c_16_6
  c_16_8 := J.c_16_8
  c_16_9 := J.c_16_9
  c_16_10 := J.c_16_10
  c_16_11 := J.c_16_11
  c_16_12 := J.c_16_12
  c_16_13 := J.c_16_13
  c_16_14 := J.c_16_14
  c_16_15 := J.c_16_15
  c_18_0 := J.c_18_0
  c_18_3 := fun _ => rfl
  c_18_4 := J.c_18_4
  c_18_6 := J.c_18_6
  c_18_8 := J.c_18_8
  c_18_9 := J.c_18_9
  c_18_10 := J.c_18_10
  c_18_11 := J.c_18_11
  c_18_12 := J.c_18_12
  c_18_13 := J.c_18_13
  c_18_14 := J.c_18_14
  c_18_15 := J.c_18_15
  c_18_16 := J.c_18_16
  c_18_17 := J.c_18_17
  f0 := fun _ h => absurd h (show ¬ true = false by decide)
  f3 := fun _ _ => ho
  f4 := fun h => (J.f4 h).grown (J.f0 d0 hi) hg (by decide)
  f6 := fun h => (J.f6 h).grown (J.f0 d0 hi) hg (by decide)
  f8 := fun h => (J.f8 h).grown (J.f0 d0 hi) hg (by decide)
  f9 := J.f9
  f10 := fun h => (J.f10 h).grown (J.f0 d0 hi) hg (by decide)
  f11 := J.f11
  f12 := fun h => (J.f12 h).grown (J.f0 d0 hi) hg (by decide)
  f13 := J.f13
  f14 := fun h h15 => by
    obtain ⟨g, e, hb, hne⟩ := J.f14 h h15
    exact ⟨g, e, (hg.block g (lt_of_block hb) (fun e => hne d0 hi e.symm)).trans hb, fun _ h => absurd h (show ¬ true = false by decide)⟩
  f15 := fun h => absurd (J.c_15_3 h) (by rw [hi]; decide)
  f16 := J.f16
  f17 := fun h h18 => by
    obtain ⟨g, e, hb, hl⟩ := J.f17 h h18
    exact ⟨g, e, (hg.block g (lt_of_block hb) (fun e => own_type (J.f0 d0 hi) hb (by decide) e.symm)).trans hb, hl⟩
  f18 := fun h => absurd (J.c_18_3 h) (by rw [hi]; decide)
theorem szj_4 (J : SzJ ze rows ec w0 b s W) (hi : b 4 = false) : SzJ ze rows ec w0 (updB b 4) (updS s 39 (.slice (some ⟨W.heap.size, 0, none⟩) 2 2)) (W.alloc (.cells #[.string ⟨#[97]⟩, .string ⟨#[98]⟩] 9)) where
  below := J.below.alloc J.below.size _
  c_3_0 := J.c_3_0
  c_9_6 := J.c_9_6
  c_9_8 := J.c_9_8
  c_10_6 := J.c_10_6
  c_10_8 := J.c_10_8
  c_10_9 := J.c_10_9
  c_11_4 := fun _ => rfl
  c_11_6 := J.c_11_6
  c_11_8 := J.c_11_8
  c_11_9 := J.c_11_9
  c_11_10 := J.c_11_10
  c_12_4 := fun _ => rfl
  c_12_6 := J.c_12_6
  c_12_8 := J.c_12_8
  c_12_9 := J.c_12_9
  c_12_10 := J.c_12_10
  c_12_11 := J.c_12_11
  c_13_4 := fun _ => rfl
  c_13_6 := J.c_13_6
  c_13_8 := J.c_13_8
  c_13_9 := J.c_13_9
  c_13_10 := J.c_13_10
  c_13_11 := J.c_13_11
  c_13_12 := J.c_13_12
  c_14_4 := fun _ => rfl
  c_14_6 := J.c_14_6
  c_14_8 := J.c_14_8
  c_14_9 := J.c_14_9
  c_14_10 := J.c_14_10
  c_14_11 := J.c_14_11
  c_14_12 := J.c_14_12
  c_14_13 := J.c_14_13
  c_15_0 := J.c_15_0
  c_15_3 := J.c_15_3
  c_15_4 := fun _ => rfl
  c_15_6 := J.c_15_6
  c_15_8 := J.c_15_8
  c_15_9 := J.c_15_9
  c_15_10 := J.c_15_10
  c_15_11 := J.c_15_11
  c_15_12 := J.c_15_12
  c_15_13 := J.c_15_13
  c_15_14 := J.c_15_14
  c_16_0 := J.c_16_0
  c_16_3 := J.c_16_3
  c_16_4 := fun _ => rfl
  c_16_6 := J.c_16_6
  c_16_8 := J.c_16_8
  c_16_9 := J.c_16_9
  c_16_10 := J.c_16_10
  c_16_11 := J.c_16_11
  c_16_12 := J.c_16_12
  c_16_13 := J.c_16_13
  c_16_14 := J.c_16_14
  c_16_15 := J.c_16_15
  c_18_0 := J.c_18_0
  c_18_3 := J.c_18_3
  c_18_4 := fun _ => rfl
  c_18_6 := J.c_18_6
  c_18_8 := J.c_18_8
  c_18_9 := J.c_18_9
  c_18_10 := J.c_18_10
  c_18_11 := J.c_18_11
  c_18_12 := J.c_18_12
  c_18_13 := J.c_18_13
  c_18_14 := J.c_18_14
  c_18_15 := J.c_18_15
  c_18_16 := J.c_18_16
  c_18_17 := J.c_18_17
  f0 := fun h h3 => (J.f0 h h3).alloc _
  f3 := fun h h3 => (J.f3 h h3).alloc _
  f4 := fun _ => AtB.new W _ _ _
  f6 := fun h => (J.f6 h).alloc _
  f8 := fun h => (J.f8 h).alloc _
  f9 := J.f9
  f10 := fun h => (J.f10 h).alloc _
  f11 := fun h => absurd (J.c_11_4 h) (by rw [hi]; decide)
  f12 := fun h => absurd (J.c_12_4 h) (by rw [hi]; decide)
  f13 := J.f13
  f14 := fun h h15 => by
    obtain ⟨g, e, hb, hne⟩ := J.f14 h h15
    exact ⟨g, e, (old_alloc W _ (lt_of_block hb)).trans hb, hne⟩
  f15 := fun h => (J.f15 h).alloc _
  f16 := J.f16
  f17 := fun h h18 => by
    obtain ⟨g, e, hb, hl⟩ := J.f17 h h18
    exact ⟨g, e, (old_alloc W _ (lt_of_block hb)).trans hb, hl⟩
  f18 := fun h => absurd (J.c_18_4 h) (by rw [hi]; decide)
theorem szj_6 (J : SzJ ze rows ec w0 b s W) (hi : b 6 = false) : SzJ ze rows ec w0 (updB b 6) (updS s 41 (.slice (some ⟨W.heap.size, 0, none⟩) 1 1)) (W.alloc (.cells ec 24)) where
  below := J.below.alloc J.below.size _
  c_3_0 := J.c_3_0
  c_9_6 := fun _ => rfl
  c_9_8 := J.c_9_8
  c_10_6 := fun _ => rfl
  c_10_8 := J.c_10_8
  c_10_9 := J.c_10_9
  c_11_4 := J.c_11_4
  c_11_6 := fun _ => rfl
  c_11_8 := J.c_11_8
  c_11_9 := J.c_11_9
  c_11_10 := J.c_11_10
  c_12_4 := J.c_12_4
  c_12_6 := fun _ => rfl
  c_12_8 := J.c_12_8
  c_12_9 := J.c_12_9
  c_12_10 := J.c_12_10
  c_12_11 := J.c_12_11
  c_13_4 := J.c_13_4
  c_13_6 := fun _ => rfl
  c_13_8 := J.c_13_8
  c_13_9 := J.c_13_9
  c_13_10 := J.c_13_10
  c_13_11 := J.c_13_11
  c_13_12 := J.c_13_12
  c_14_4 := J.c_14_4
  c_14_6 := fun _ => rfl
  c_14_8 := J.c_14_8
  c_14_9 := J.c_14_9
  c_14_10 := J.c_14_10
  c_14_11 := J.c_14_11
  c_14_12 := J.c_14_12
  c_14_13 := J.c_14_13
  c_15_0 := J.c_15_0
  c_15_3 := J.c_15_3
  c_15_4 := J.c_15_4
  c_15_6 := fun _ => rfl
  c_15_8 := J.c_15_8
  c_15_9 := J.c_15_9
  c_15_10 := J.c_15_10
  c_15_11 := J.c_15_11
  c_15_12 := J.c_15_12
  c_15_13 := J.c_15_13
  c_15_14 := J.c_15_14
  c_16_0 := J.c_16_0
  c_16_3 := J.c_16_3
  c_16_4 := J.c_16_4
  c_16_6 := fun _ => rfl
  c_16_8 := J.c_16_8
  c_16_9 := J.c_16_9
  c_16_10 := J.c_16_10
  c_16_11 := J.c_16_11
  c_16_12 := J.c_16_12
  c_16_13 := J.c_16_13
  c_16_14 := J.c_16_14
  c_16_15 := J.c_16_15
  c_18_0 := J.c_18_0
  c_18_3 := J.c_18_3
  c_18_4 := J.c_18_4
  c_18_6 := fun _ => rfl
  c_18_8 := J.c_18_8
  c_18_9 := J.c_18_9
  c_18_10 := J.c_18_10
  c_18_11 := J.c_18_11
  c_18_12 := J.c_18_12
  c_18_13 := J.c_18_13
  c_18_14 := J.c_18_14
  c_18_15 := J.c_18_15
  c_18_16 := J.c_18_16
  c_18_17 := J.c_18_17
  f0 := fun h h3 => (J.f0 h h3).alloc _
  f3 := fun h h3 => (J.f3 h h3).alloc _
  f4 := fun h => (J.f4 h).alloc _
  f6 := fun _ => AtB.new W _ _ _
  f8 := fun h => (J.f8 h).alloc _
  f9 := fun h => absurd (J.c_9_6 h) (by rw [hi]; decide)
  f10 := fun h => absurd (J.c_10_6 h) (by rw [hi]; decide)
  f11 := J.f11
  f12 := fun h => (J.f12 h).alloc _
  f13 := J.f13
  f14 := fun h h15 => by
    obtain ⟨g, e, hb, hne⟩ := J.f14 h h15
    exact ⟨g, e, (old_alloc W _ (lt_of_block hb)).trans hb, hne⟩
  f15 := fun h => (J.f15 h).alloc _
  f16 := J.f16
  f17 := fun h h18 => by
    obtain ⟨g, e, hb, hl⟩ := J.f17 h h18
    exact ⟨g, e, (old_alloc W _ (lt_of_block hb)).trans hb, hl⟩
  f18 := fun h => absurd (J.c_18_6 h) (by rw [hi]; decide)
theorem szj_8 (J : SzJ ze rows ec w0 b s W) (hi : b 8 = false) : SzJ ze rows ec w0 (updB b 8) (updS s 43 (.slice (some ⟨W.heap.size, 0, none⟩) 1 1)) (W.alloc (.cells #[.int .i64 9, .string ⟨#[]⟩, .slice none 0 0, .slice none 0 0, .slice none 0 0] 46)) where
  below := J.below.alloc J.below.size _
  c_3_0 := J.c_3_0
  c_9_6 := J.c_9_6
  c_9_8 := fun _ => rfl
  c_10_6 := J.c_10_6
  c_10_8 := fun _ => rfl
  c_10_9 := J.c_10_9
  c_11_4 := J.c_11_4
  c_11_6 := J.c_11_6
  c_11_8 := fun _ => rfl
  c_11_9 := J.c_11_9
  c_11_10 := J.c_11_10
  c_12_4 := J.c_12_4
  c_12_6 := J.c_12_6
  c_12_8 := fun _ => rfl
  c_12_9 := J.c_12_9
  c_12_10 := J.c_12_10
  c_12_11 := J.c_12_11
  c_13_4 := J.c_13_4
  c_13_6 := J.c_13_6
  c_13_8 := fun _ => rfl
  c_13_9 := J.c_13_9
  c_13_10 := J.c_13_10
  c_13_11 := J.c_13_11
  c_13_12 := J.c_13_12
  c_14_4 := J.c_14_4
  c_14_6 := J.c_14_6
  c_14_8 := fun _ => rfl
  c_14_9 := J.c_14_9
  c_14_10 := J.c_14_10
  c_14_11 := J.c_14_11
  c_14_12 := J.c_14_12
  c_14_13 := J.c_14_13
  c_15_0 := J.c_15_0
  c_15_3 := J.c_15_3
  c_15_4 := J.c_15_4
  c_15_6 := J.c_15_6
  c_15_8 := fun _ => rfl
  c_15_9 := J.c_15_9
  c_15_10 := J.c_15_10
  c_15_11 := J.c_15_11
  c_15_12 := J.c_15_12
  c_15_13 := J.c_15_13
  c_15_14 := J.c_15_14
  c_16_0 := J.c_16_0
  c_16_3 := J.c_16_3
  c_16_4 := J.c_16_4
  c_16_6 := J.c_16_6
  c_16_8 := fun _ => rfl
  c_16_9 := J.c_16_9
  c_16_10 := J.c_16_10
  c_16_11 := J.c_16_11
  c_16_12 := J.c_16_12
  c_16_13 := J.c_16_13
  c_16_14 := J.c_16_14
  c_16_15 := J.c_16_15
  c_18_0 := J.c_18_0
  c_18_3 := J.c_18_3
  c_18_4 := J.c_18_4
  c_18_6 := J.c_18_6
  c_18_8 := fun _ => rfl
  c_18_9 := J.c_18_9
  c_18_10 := J.c_18_10
  c_18_11 := J.c_18_11
  c_18_12 := J.c_18_12
  c_18_13 := J.c_18_13
  c_18_14 := J.c_18_14
  c_18_15 := J.c_18_15
  c_18_16 := J.c_18_16
  c_18_17 := J.c_18_17
  f0 := fun h h3 => (J.f0 h h3).alloc _
  f3 := fun h h3 => (J.f3 h h3).alloc _
  f4 := fun h => (J.f4 h).alloc _
  f6 := fun h => (J.f6 h).alloc _
  f8 := fun _ => AtB.new W _ _ _
  f9 := fun h => absurd (J.c_9_8 h) (by rw [hi]; decide)
  f10 := fun h => absurd (J.c_10_8 h) (by rw [hi]; decide)
  f11 := J.f11
  f12 := fun h => (J.f12 h).alloc _
  f13 := J.f13
  f14 := fun h h15 => by
    obtain ⟨g, e, hb, hne⟩ := J.f14 h h15
    exact ⟨g, e, (old_alloc W _ (lt_of_block hb)).trans hb, hne⟩
  f15 := fun h => (J.f15 h).alloc _
  f16 := J.f16
  f17 := fun h h18 => by
    obtain ⟨g, e, hb, hl⟩ := J.f17 h h18
    exact ⟨g, e, (old_alloc W _ (lt_of_block hb)).trans hb, hl⟩
  f18 := fun h => absurd (J.c_18_8 h) (by rw [hi]; decide)
theorem szj_9 (J : SzJ ze rows ec w0 b s W) (hi : b 9 = false) (d6 : b 6 = true) (d8 : b 8 = true) : SzJ ze rows ec w0 (updB b 9) (updS s 44 (.agg #[.int .i64 4, .string ⟨#[]⟩, s 41, s 43, .slice none 0 0])) W where
  below := J.below
  c_3_0 := J.c_3_0
  c_9_6 := fun _ => d6
  c_9_8 := fun _ => d8
  c_10_6 := J.c_10_6
  c_10_8 := J.c_10_8
  c_10_9 := fun _ => rfl
  c_11_4 := J.c_11_4
  c_11_6 := J.c_11_6
  c_11_8 := J.c_11_8
  c_11_9 := fun _ => rfl
  c_11_10 := J.c_11_10
  c_12_4 := J.c_12_4
  c_12_6 := J.c_12_6
  c_12_8 := J.c_12_8
  c_12_9 := fun _ => rfl
  c_12_10 := J.c_12_10
  c_12_11 := J.c_12_11
  c_13_4 := J.c_13_4
  c_13_6 := J.c_13_6
  c_13_8 := J.c_13_8
  c_13_9 := fun _ => rfl
  c_13_10 := J.c_13_10
  c_13_11 := J.c_13_11
  c_13_12 := J.c_13_12
  c_14_4 := J.c_14_4
  c_14_6 := J.c_14_6
  c_14_8 := J.c_14_8
  c_14_9 := fun _ => rfl
  c_14_10 := J.c_14_10
  c_14_11 := J.c_14_11
  c_14_12 := J.c_14_12
  c_14_13 := J.c_14_13
  c_15_0 := J.c_15_0
  c_15_3 := J.c_15_3
  c_15_4 := J.c_15_4
  c_15_6 := J.c_15_6
  c_15_8 := J.c_15_8
  c_15_9 := fun _ => rfl
  c_15_10 := J.c_15_10
  c_15_11 := J.c_15_11
  c_15_12 := J.c_15_12
  c_15_13 := J.c_15_13
  c_15_14 := J.c_15_14
  c_16_0 := J.c_16_0
  c_16_3 := J.c_16_3
  c_16_4 := J.c_16_4
  c_16_6 := J.c_16_6
  c_16_8 := J.c_16_8
  c_16_9 := fun _ => rfl
  c_16_10 := J.c_16_10
  c_16_11 := J.c_16_11
  c_16_12 := J.c_16_12
  c_16_13 := J.c_16_13
  c_16_14 := J.c_16_14
  c_16_15 := J.c_16_15
  c_18_0 := J.c_18_0
  c_18_3 := J.c_18_3
  c_18_4 := J.c_18_4
  c_18_6 := J.c_18_6
  c_18_8 := J.c_18_8
  c_18_9 := fun _ => rfl
  c_18_10 := J.c_18_10
  c_18_11 := J.c_18_11
  c_18_12 := J.c_18_12
  c_18_13 := J.c_18_13
  c_18_14 := J.c_18_14
  c_18_15 := J.c_18_15
  c_18_16 := J.c_18_16
  c_18_17 := J.c_18_17
  f0 := J.f0
  f3 := J.f3
  f4 := J.f4
  f6 := J.f6
  f8 := J.f8
  f9 := fun _ => rfl
  f10 := J.f10
  f11 := J.f11
  f12 := J.f12
  f13 := J.f13
  f14 := J.f14
  f15 := J.f15
  f16 := J.f16
  f17 := J.f17
  f18 := fun h => absurd (J.c_18_9 h) (by rw [hi]; decide)
theorem szj_10 (J : SzJ ze rows ec w0 b s W) (hi : b 10 = false) (d9 : b 9 = true) : SzJ ze rows ec w0 (updB b 10) (updS s 45 (.slice (some ⟨W.heap.size, 0, none⟩) 1 1)) (W.alloc (.cells #[.int .i64 4, .string ⟨#[]⟩, s 41, s 43, .slice none 0 0] 46)) where
  below := J.below.alloc J.below.size _
  c_3_0 := J.c_3_0
  c_9_6 := J.c_9_6
  c_9_8 := J.c_9_8
  c_10_6 := fun _ => J.c_9_6 d9
  c_10_8 := fun _ => J.c_9_8 d9
  c_10_9 := fun _ => d9
  c_11_4 := J.c_11_4
  c_11_6 := J.c_11_6
  c_11_8 := J.c_11_8
  c_11_9 := J.c_11_9
  c_11_10 := fun _ => rfl
  c_12_4 := J.c_12_4
  c_12_6 := J.c_12_6
  c_12_8 := J.c_12_8
  c_12_9 := J.c_12_9
  c_12_10 := fun _ => rfl
  c_12_11 := J.c_12_11
  c_13_4 := J.c_13_4
  c_13_6 := J.c_13_6
  c_13_8 := J.c_13_8
  c_13_9 := J.c_13_9
  c_13_10 := fun _ => rfl
  c_13_11 := J.c_13_11
  c_13_12 := J.c_13_12
  c_14_4 := J.c_14_4
  c_14_6 := J.c_14_6
  c_14_8 := J.c_14_8
  c_14_9 := J.c_14_9
  c_14_10 := fun _ => rfl
  c_14_11 := J.c_14_11
  c_14_12 := J.c_14_12
  c_14_13 := J.c_14_13
  c_15_0 := J.c_15_0
  c_15_3 := J.c_15_3
  c_15_4 := J.c_15_4
  c_15_6 := J.c_15_6
  c_15_8 := J.c_15_8
  c_15_9 := J.c_15_9
  c_15_10 := fun _ => rfl
  c_15_11 := J.c_15_11
  c_15_12 := J.c_15_12
  c_15_13 := J.c_15_13
  c_15_14 := J.c_15_14
  c_16_0 := J.c_16_0
  c_16_3 := J.c_16_3
  c_16_4 := J.c_16_4
  c_16_6 := J.c_16_6
  c_16_8 := J.c_16_8
  c_16_9 := J.c_16_9
  c_16_10 := fun _ => rfl
  c_16_11 := J.c_16_11
  c_16_12 := J.c_16_12
  c_16_13 := J.c_16_13
  c_16_14 := J.c_16_14
  c_16_15 := J.c_16_15
  c_18_0 := J.c_18_0
  c_18_3 := J.c_18_3
  c_18_4 := J.c_18_4
  c_18_6 := J.c_18_6
  c_18_8 := J.c_18_8
  c_18_9 := J.c_18_9
  c_18_10 := fun _ => rfl
  c_18_11 := J.c_18_11
  c_18_12 := J.c_18_12
  c_18_13 := J.c_18_13
  c_18_14 := J.c_18_14
  c_18_15 := J.c_18_15
  c_18_16 := J.c_18_16
  c_18_17 := J.c_18_17
  f0 := fun h h3 => (J.f0 h h3).alloc _
  f3 := fun h h3 => (J.f3 h h3).alloc _
  f4 := fun h => (J.f4 h).alloc _
  f6 := fun h => (J.f6 h).alloc _
  f8 := fun h => (J.f8 h).alloc _
  f9 := J.f9
  f10 := fun _ => AtB.new W _ _ _
  f11 := fun h => absurd (J.c_11_10 h) (by rw [hi]; decide)
  f12 := fun h => absurd (J.c_12_10 h) (by rw [hi]; decide)
  f13 := J.f13
  f14 := fun h h15 => by
    obtain ⟨g, e, hb, hne⟩ := J.f14 h h15
    exact ⟨g, e, (old_alloc W _ (lt_of_block hb)).trans hb, hne⟩
  f15 := fun h => (J.f15 h).alloc _
  f16 := J.f16
  f17 := fun h h18 => by
    obtain ⟨g, e, hb, hl⟩ := J.f17 h h18
    exact ⟨g, e, (old_alloc W _ (lt_of_block hb)).trans hb, hl⟩
  f18 := fun h => absurd (J.c_18_10 h) (by rw [hi]; decide)
theorem szj_11 (J : SzJ ze rows ec w0 b s W) (hi : b 11 = false) (d4 : b 4 = true) (d10 : b 10 = true) : SzJ ze rows ec w0 (updB b 11) (updS s 46 (.agg #[.string ⟨#[109]⟩, s 39, s 45])) W where
  below := J.below
  c_3_0 := J.c_3_0
  c_9_6 := J.c_9_6
  c_9_8 := J.c_9_8
  c_10_6 := J.c_10_6
  c_10_8 := J.c_10_8
  c_10_9 := J.c_10_9
  c_11_4 := fun _ => d4
  c_11_6 := fun _ => J.c_10_6 d10
  c_11_8 := fun _ => J.c_10_8 d10
  c_11_9 := fun _ => J.c_10_9 d10
  c_11_10 := fun _ => d10
  c_12_4 := J.c_12_4
  c_12_6 := J.c_12_6
  c_12_8 := J.c_12_8
  c_12_9 := J.c_12_9
  c_12_10 := J.c_12_10
  c_12_11 := fun _ => rfl
  c_13_4 := J.c_13_4
  c_13_6 := J.c_13_6
  c_13_8 := J.c_13_8
  c_13_9 := J.c_13_9
  c_13_10 := J.c_13_10
  c_13_11 := fun _ => rfl
  c_13_12 := J.c_13_12
  c_14_4 := J.c_14_4
  c_14_6 := J.c_14_6
  c_14_8 := J.c_14_8
  c_14_9 := J.c_14_9
  c_14_10 := J.c_14_10
  c_14_11 := fun _ => rfl
  c_14_12 := J.c_14_12
  c_14_13 := J.c_14_13
  c_15_0 := J.c_15_0
  c_15_3 := J.c_15_3
  c_15_4 := J.c_15_4
  c_15_6 := J.c_15_6
  c_15_8 := J.c_15_8
  c_15_9 := J.c_15_9
  c_15_10 := J.c_15_10
  c_15_11 := fun _ => rfl
  c_15_12 := J.c_15_12
  c_15_13 := J.c_15_13
  c_15_14 := J.c_15_14
  c_16_0 := J.c_16_0
  c_16_3 := J.c_16_3
  c_16_4 := J.c_16_4
  c_16_6 := J.c_16_6
  c_16_8 := J.c_16_8
  c_16_9 := J.c_16_9
  c_16_10 := J.c_16_10
  c_16_11 := fun _ => rfl
  c_16_12 := J.c_16_12
  c_16_13 := J.c_16_13
  c_16_14 := J.c_16_14
  c_16_15 := J.c_16_15
  c_18_0 := J.c_18_0
  c_18_3 := J.c_18_3
  c_18_4 := J.c_18_4
  c_18_6 := J.c_18_6
  c_18_8 := J.c_18_8
  c_18_9 := J.c_18_9
  c_18_10 := J.c_18_10
  c_18_11 := fun _ => rfl
  c_18_12 := J.c_18_12
  c_18_13 := J.c_18_13
  c_18_14 := J.c_18_14
  c_18_15 := J.c_18_15
  c_18_16 := J.c_18_16
  c_18_17 := J.c_18_17
  f0 := J.f0
  f3 := J.f3
  f4 := J.f4
  f6 := J.f6
  f8 := J.f8
  f9 := J.f9
  f10 := J.f10
  f11 := fun _ => rfl
  f12 := J.f12
  f13 := J.f13
  f14 := J.f14
  f15 := J.f15
  f16 := J.f16
  f17 := J.f17
  f18 := fun h => absurd (J.c_18_11 h) (by rw [hi]; decide)
theorem szj_12 (J : SzJ ze rows ec w0 b s W) (hi : b 12 = false) (d11 : b 11 = true) : SzJ ze rows ec w0 (updB b 12) (updS s 47 (.slice (some ⟨W.heap.size, 0, none⟩) 1 1)) (W.alloc (.cells #[.string ⟨#[109]⟩, s 39, s 45] 49)) where
  below := J.below.alloc J.below.size _
  c_3_0 := J.c_3_0
  c_9_6 := J.c_9_6
  c_9_8 := J.c_9_8
  c_10_6 := J.c_10_6
  c_10_8 := J.c_10_8
  c_10_9 := J.c_10_9
  c_11_4 := J.c_11_4
  c_11_6 := J.c_11_6
  c_11_8 := J.c_11_8
  c_11_9 := J.c_11_9
  c_11_10 := J.c_11_10
  c_12_4 := fun _ => J.c_11_4 d11
  c_12_6 := fun _ => J.c_11_6 d11
  c_12_8 := fun _ => J.c_11_8 d11
  c_12_9 := fun _ => J.c_11_9 d11
  c_12_10 := fun _ => J.c_11_10 d11
  c_12_11 := fun _ => d11
  c_13_4 := J.c_13_4
  c_13_6 := J.c_13_6
  c_13_8 := J.c_13_8
  c_13_9 := J.c_13_9
  c_13_10 := J.c_13_10
  c_13_11 := J.c_13_11
  c_13_12 := fun _ => rfl
  c_14_4 := J.c_14_4
  c_14_6 := J.c_14_6
  c_14_8 := J.c_14_8
  c_14_9 := J.c_14_9
  c_14_10 := J.c_14_10
  c_14_11 := J.c_14_11
  c_14_12 := fun _ => rfl
  c_14_13 := J.c_14_13
  c_15_0 := J.c_15_0
  c_15_3 := J.c_15_3
  c_15_4 := J.c_15_4
  c_15_6 := J.c_15_6
  c_15_8 := J.c_15_8
  c_15_9 := J.c_15_9
  c_15_10 := J.c_15_10
  c_15_11 := J.c_15_11
  c_15_12 := fun _ => rfl
  c_15_13 := J.c_15_13
  c_15_14 := J.c_15_14
  c_16_0 := J.c_16_0
  c_16_3 := J.c_16_3
  c_16_4 := J.c_16_4
  c_16_6 := J.c_16_6
  c_16_8 := J.c_16_8
  c_16_9 := J.c_16_9
  c_16_10 := J.c_16_10
  c_16_11 := J.c_16_11
  c_16_12 := fun _ => rfl
  c_16_13 := J.c_16_13
  c_16_14 := J.c_16_14
  c_16_15 := J.c_16_15
  c_18_0 := J.c_18_0
  c_18_3 := J.c_18_3
  c_18_4 := J.c_18_4
  c_18_6 := J.c_18_6
  c_18_8 := J.c_18_8
  c_18_9 := J.c_18_9
  c_18_10 := J.c_18_10
  c_18_11 := J.c_18_11
  c_18_12 := fun _ => rfl
  c_18_13 := J.c_18_13
  c_18_14 := J.c_18_14
  c_18_15 := J.c_18_15
  c_18_16 := J.c_18_16
  c_18_17 := J.c_18_17
  f0 := fun h h3 => (J.f0 h h3).alloc _
  f3 := fun h h3 => (J.f3 h h3).alloc _
  f4 := fun h => (J.f4 h).alloc _
  f6 := fun h => (J.f6 h).alloc _
  f8 := fun h => (J.f8 h).alloc _
  f9 := J.f9
  f10 := fun h => (J.f10 h).alloc _
  f11 := J.f11
  f12 := fun _ => AtB.new W _ _ _
  f13 := fun h => absurd (J.c_13_12 h) (by rw [hi]; decide)
  f14 := fun h => absurd (J.c_14_12 h) (by rw [hi]; decide)
  f15 := fun h => absurd (J.c_15_12 h) (by rw [hi]; decide)
  f16 := J.f16
  f17 := fun h h18 => by
    obtain ⟨g, e, hb, hl⟩ := J.f17 h h18
    exact ⟨g, e, (old_alloc W _ (lt_of_block hb)).trans hb, hl⟩
  f18 := fun h => absurd (J.c_18_12 h) (by rw [hi]; decide)
theorem szj_13 (J : SzJ ze rows ec w0 b s W) (hi : b 13 = false) (d12 : b 12 = true) : SzJ ze rows ec w0 (updB b 13) (updS s 48 (.agg #[.string ⟨#[90]⟩, .bool true, .slice none 0 0, s 47])) W where
  below := J.below
  c_3_0 := J.c_3_0
  c_9_6 := J.c_9_6
  c_9_8 := J.c_9_8
  c_10_6 := J.c_10_6
  c_10_8 := J.c_10_8
  c_10_9 := J.c_10_9
  c_11_4 := J.c_11_4
  c_11_6 := J.c_11_6
  c_11_8 := J.c_11_8
  c_11_9 := J.c_11_9
  c_11_10 := J.c_11_10
  c_12_4 := J.c_12_4
  c_12_6 := J.c_12_6
  c_12_8 := J.c_12_8
  c_12_9 := J.c_12_9
  c_12_10 := J.c_12_10
  c_12_11 := J.c_12_11
  c_13_4 := fun _ => J.c_12_4 d12
  c_13_6 := fun _ => J.c_12_6 d12
  c_13_8 := fun _ => J.c_12_8 d12
  c_13_9 := fun _ => J.c_12_9 d12
  c_13_10 := fun _ => J.c_12_10 d12
  c_13_11 := fun _ => J.c_12_11 d12
  c_13_12 := fun _ => d12
  c_14_4 := J.c_14_4
  c_14_6 := J.c_14_6
  c_14_8 := J.c_14_8
  c_14_9 := J.c_14_9
  c_14_10 := J.c_14_10
  c_14_11 := J.c_14_11
  c_14_12 := J.c_14_12
  c_14_13 := fun _ => rfl
  c_15_0 := J.c_15_0
  c_15_3 := J.c_15_3
  c_15_4 := J.c_15_4
  c_15_6 := J.c_15_6
  c_15_8 := J.c_15_8
  c_15_9 := J.c_15_9
  c_15_10 := J.c_15_10
  c_15_11 := J.c_15_11
  c_15_12 := J.c_15_12
  c_15_13 := fun _ => rfl
  c_15_14 := J.c_15_14
  c_16_0 := J.c_16_0
  c_16_3 := J.c_16_3
  c_16_4 := J.c_16_4
  c_16_6 := J.c_16_6
  c_16_8 := J.c_16_8
  c_16_9 := J.c_16_9
  c_16_10 := J.c_16_10
  c_16_11 := J.c_16_11
  c_16_12 := J.c_16_12
  c_16_13 := fun _ => rfl
  c_16_14 := J.c_16_14
  c_16_15 := J.c_16_15
  c_18_0 := J.c_18_0
  c_18_3 := J.c_18_3
  c_18_4 := J.c_18_4
  c_18_6 := J.c_18_6
  c_18_8 := J.c_18_8
  c_18_9 := J.c_18_9
  c_18_10 := J.c_18_10
  c_18_11 := J.c_18_11
  c_18_12 := J.c_18_12
  c_18_13 := fun _ => rfl
  c_18_14 := J.c_18_14
  c_18_15 := J.c_18_15
  c_18_16 := J.c_18_16
  c_18_17 := J.c_18_17
  f0 := J.f0
  f3 := J.f3
  f4 := J.f4
  f6 := J.f6
  f8 := J.f8
  f9 := J.f9
  f10 := J.f10
  f11 := J.f11
  f12 := J.f12
  f13 := fun _ => rfl
  f14 := J.f14
  f15 := J.f15
  f16 := J.f16
  f17 := J.f17
  f18 := fun h => absurd (J.c_18_13 h) (by rw [hi]; decide)
theorem szj_14 (J : SzJ ze rows ec w0 b s W) (hi : b 14 = false) (d13 : b 13 = true) : SzJ ze rows ec w0 (updB b 14) (updS s 49 (.slice (some ⟨W.heap.size, 0, none⟩) 1 1)) (W.alloc (.cells #[.string ⟨#[90]⟩, .bool true, .slice none 0 0, s 47] 52)) where
  below := J.below.alloc J.below.size _
  c_3_0 := J.c_3_0
  c_9_6 := J.c_9_6
  c_9_8 := J.c_9_8
  c_10_6 := J.c_10_6
  c_10_8 := J.c_10_8
  c_10_9 := J.c_10_9
  c_11_4 := J.c_11_4
  c_11_6 := J.c_11_6
  c_11_8 := J.c_11_8
  c_11_9 := J.c_11_9
  c_11_10 := J.c_11_10
  c_12_4 := J.c_12_4
  c_12_6 := J.c_12_6
  c_12_8 := J.c_12_8
  c_12_9 := J.c_12_9
  c_12_10 := J.c_12_10
  c_12_11 := J.c_12_11
  c_13_4 := J.c_13_4
  c_13_6 := J.c_13_6
  c_13_8 := J.c_13_8
  c_13_9 := J.c_13_9
  c_13_10 := J.c_13_10
  c_13_11 := J.c_13_11
  c_13_12 := J.c_13_12
  c_14_4 := fun _ => J.c_13_4 d13
  c_14_6 := fun _ => J.c_13_6 d13
  c_14_8 := fun _ => J.c_13_8 d13
  c_14_9 := fun _ => J.c_13_9 d13
  c_14_10 := fun _ => J.c_13_10 d13
  c_14_11 := fun _ => J.c_13_11 d13
  c_14_12 := fun _ => J.c_13_12 d13
  c_14_13 := fun _ => d13
  c_15_0 := J.c_15_0
  c_15_3 := J.c_15_3
  c_15_4 := J.c_15_4
  c_15_6 := J.c_15_6
  c_15_8 := J.c_15_8
  c_15_9 := J.c_15_9
  c_15_10 := J.c_15_10
  c_15_11 := J.c_15_11
  c_15_12 := J.c_15_12
  c_15_13 := J.c_15_13
  c_15_14 := fun _ => rfl
  c_16_0 := J.c_16_0
  c_16_3 := J.c_16_3
  c_16_4 := J.c_16_4
  c_16_6 := J.c_16_6
  c_16_8 := J.c_16_8
  c_16_9 := J.c_16_9
  c_16_10 := J.c_16_10
  c_16_11 := J.c_16_11
  c_16_12 := J.c_16_12
  c_16_13 := J.c_16_13
  c_16_14 := fun _ => rfl
  c_16_15 := J.c_16_15
  c_18_0 := J.c_18_0
  c_18_3 := J.c_18_3
  c_18_4 := J.c_18_4
  c_18_6 := J.c_18_6
  c_18_8 := J.c_18_8
  c_18_9 := J.c_18_9
  c_18_10 := J.c_18_10
  c_18_11 := J.c_18_11
  c_18_12 := J.c_18_12
  c_18_13 := J.c_18_13
  c_18_14 := fun _ => rfl
  c_18_15 := J.c_18_15
  c_18_16 := J.c_18_16
  c_18_17 := J.c_18_17
  f0 := fun h h3 => (J.f0 h h3).alloc _
  f3 := fun h h3 => (J.f3 h h3).alloc _
  f4 := fun h => (J.f4 h).alloc _
  f6 := fun h => (J.f6 h).alloc _
  f8 := fun h => (J.f8 h).alloc _
  f9 := J.f9
  f10 := fun h => (J.f10 h).alloc _
  f11 := J.f11
  f12 := fun h => (J.f12 h).alloc _
  f13 := J.f13
  f14 := fun _ _ => ⟨_, rfl, (MapKept.heap_alloc W _).1, fun h0 h3 hq => by
    have := ((J.f0 h0 h3).lt _ hq).2
    omega⟩
  f15 := fun h => (J.f15 h).alloc _
  f16 := J.f16
  f17 := fun h h18 => by
    obtain ⟨g, e, hb, hl⟩ := J.f17 h h18
    exact ⟨g, e, (old_alloc W _ (lt_of_block hb)).trans hb, hl⟩
  f18 := fun h => absurd (J.c_18_14 h) (by rw [hi]; decide)
theorem szj_15 (J : SzJ ze rows ec w0 b s W) (hi : b 15 = false) (d3 : b 3 = true) (d14 : b 14 = true) {v : Value} {W' : World} (ho : W'.ownsRow w0.heap.size 52 4 v (rows ++ [zRow ze (s 47)]).length (flatV cCells (rows ++ [zRow ze (s 47)]))) (hg : W.grownBy W' (s 38).ownBlock) : SzJ ze rows ec w0 (updB b 15) (updS s 50 v) W' where
  below := J.below.grown hg J.below.size (fun q hq => (own_ge (J.f3 d3 hi) hq).1)
  c_3_0 := J.c_3_0
  c_9_6 := J.c_9_6
  c_9_8 := J.c_9_8
  c_10_6 := J.c_10_6
  c_10_8 := J.c_10_8
  c_10_9 := J.c_10_9
  c_11_4 := J.c_11_4
  c_11_6 := J.c_11_6
  c_11_8 := J.c_11_8
  c_11_9 := J.c_11_9
  c_11_10 := J.c_11_10
  c_12_4 := J.c_12_4
  c_12_6 := J.c_12_6
  c_12_8 := J.c_12_8
  c_12_9 := J.c_12_9
  c_12_10 := J.c_12_10
  c_12_11 := J.c_12_11
  c_13_4 := J.c_13_4
  c_13_6 := J.c_13_6
  c_13_8 := J.c_13_8
  c_13_9 := J.c_13_9
  c_13_10 := J.c_13_10
  c_13_11 := J.c_13_11
  c_13_12 := J.c_13_12
  c_14_4 := J.c_14_4
  c_14_6 := J.c_14_6
  c_14_8 := J.c_14_8
  c_14_9 := J.c_14_9
  c_14_10 := J.c_14_10
  c_14_11 := J.c_14_11
  c_14_12 := J.c_14_12
  c_14_13 := J.c_14_13
  c_15_0 := fun _ => J.c_3_0 d3
  c_15_3 := fun _ => d3
  c_15_4 := fun _ => J.c_14_4 d14
  c_15_6 := fun _ => J.c_14_6 d14
  c_15_8 := fun _ => J.c_14_8 d14
  c_15_9 := fun _ => J.c_14_9 d14
  c_15_10 := fun _ => J.c_14_10 d14
  c_15_11 := fun _ => J.c_14_11 d14
  c_15_12 := fun _ => J.c_14_12 d14
  c_15_13 := fun _ => J.c_14_13 d14
  c_15_14 := fun _ => d14
  c_16_0 := J.c_16_0
  c_16_3 := J.c_16_3
  c_16_4 := J.c_16_4
  c_16_6 := J.c_16_6
  c_16_8 := J.c_16_8
  c_16_9 := J.c_16_9
  c_16_10 := J.c_16_10
  c_16_11 := J.c_16_11
  c_16_12 := J.c_16_12
  c_16_13 := J.c_16_13
  c_16_14 := J.c_16_14
  c_16_15 := fun _ => rfl
  c_18_0 := J.c_18_0
  c_18_3 := J.c_18_3
  c_18_4 := J.c_18_4
  c_18_6 := J.c_18_6
  c_18_8 := J.c_18_8
  c_18_9 := J.c_18_9
  c_18_10 := J.c_18_10
  c_18_11 := J.c_18_11
  c_18_12 := J.c_18_12
  c_18_13 := J.c_18_13
  c_18_14 := J.c_18_14
  c_18_15 := fun _ => rfl
  c_18_16 := J.c_18_16
  c_18_17 := J.c_18_17
  f0 := fun _ h => absurd h (by show ¬ b 3 = false; rw [d3]; decide)
  f3 := fun _ h => absurd h (show ¬ true = false by decide)
  f4 := fun h => (J.f4 h).grown (J.f3 d3 hi) hg (by decide)
  f6 := fun h => (J.f6 h).grown (J.f3 d3 hi) hg (by decide)
  f8 := fun h => (J.f8 h).grown (J.f3 d3 hi) hg (by decide)
  f9 := J.f9
  f10 := fun h => (J.f10 h).grown (J.f3 d3 hi) hg (by decide)
  f11 := J.f11
  f12 := fun h => (J.f12 h).grown (J.f3 d3 hi) hg (by decide)
  f13 := J.f13
  f14 := fun _ h => absurd h (show ¬ true = false by decide)
  f15 := fun _ => ho
  f16 := fun h => absurd (J.c_16_15 h) (by rw [hi]; decide)
  f17 := fun h h18 => by
    obtain ⟨g, e, hb, hl⟩ := J.f17 h h18
    exact ⟨g, e, (hg.block g (lt_of_block hb) (fun e => own_type (J.f3 d3 hi) hb (by decide) e.symm)).trans hb, hl⟩
  f18 := fun h => absurd (J.c_18_15 h) (by rw [hi]; decide)
theorem szj_16 (J : SzJ ze rows ec w0 b s W) (hi : b 16 = false) (d15 : b 15 = true) : SzJ ze rows ec w0 (updB b 16) (updS s 51 (.agg #[s 50])) W where
  below := J.below
  c_3_0 := J.c_3_0
  c_9_6 := J.c_9_6
  c_9_8 := J.c_9_8
  c_10_6 := J.c_10_6
  c_10_8 := J.c_10_8
  c_10_9 := J.c_10_9
  c_11_4 := J.c_11_4
  c_11_6 := J.c_11_6
  c_11_8 := J.c_11_8
  c_11_9 := J.c_11_9
  c_11_10 := J.c_11_10
  c_12_4 := J.c_12_4
  c_12_6 := J.c_12_6
  c_12_8 := J.c_12_8
  c_12_9 := J.c_12_9
  c_12_10 := J.c_12_10
  c_12_11 := J.c_12_11
  c_13_4 := J.c_13_4
  c_13_6 := J.c_13_6
  c_13_8 := J.c_13_8
  c_13_9 := J.c_13_9
  c_13_10 := J.c_13_10
  c_13_11 := J.c_13_11
  c_13_12 := J.c_13_12
  c_14_4 := J.c_14_4
  c_14_6 := J.c_14_6
  c_14_8 := J.c_14_8
  c_14_9 := J.c_14_9
  c_14_10 := J.c_14_10
  c_14_11 := J.c_14_11
  c_14_12 := J.c_14_12
  c_14_13 := J.c_14_13
  c_15_0 := J.c_15_0
  c_15_3 := J.c_15_3
  c_15_4 := J.c_15_4
  c_15_6 := J.c_15_6
  c_15_8 := J.c_15_8
  c_15_9 := J.c_15_9
  c_15_10 := J.c_15_10
  c_15_11 := J.c_15_11
  c_15_12 := J.c_15_12
  c_15_13 := J.c_15_13
  c_15_14 := J.c_15_14
  c_16_0 := fun _ => J.c_15_0 d15
  c_16_3 := fun _ => J.c_15_3 d15
  c_16_4 := fun _ => J.c_15_4 d15
  c_16_6 := fun _ => J.c_15_6 d15
  c_16_8 := fun _ => J.c_15_8 d15
  c_16_9 := fun _ => J.c_15_9 d15
  c_16_10 := fun _ => J.c_15_10 d15
  c_16_11 := fun _ => J.c_15_11 d15
  c_16_12 := fun _ => J.c_15_12 d15
  c_16_13 := fun _ => J.c_15_13 d15
  c_16_14 := fun _ => J.c_15_14 d15
  c_16_15 := fun _ => d15
  c_18_0 := J.c_18_0
  c_18_3 := J.c_18_3
  c_18_4 := J.c_18_4
  c_18_6 := J.c_18_6
  c_18_8 := J.c_18_8
  c_18_9 := J.c_18_9
  c_18_10 := J.c_18_10
  c_18_11 := J.c_18_11
  c_18_12 := J.c_18_12
  c_18_13 := J.c_18_13
  c_18_14 := J.c_18_14
  c_18_15 := J.c_18_15
  c_18_16 := fun _ => rfl
  c_18_17 := J.c_18_17
  f0 := J.f0
  f3 := J.f3
  f4 := J.f4
  f6 := J.f6
  f8 := J.f8
  f9 := J.f9
  f10 := J.f10
  f11 := J.f11
  f12 := J.f12
  f13 := J.f13
  f14 := J.f14
  f15 := J.f15
  f16 := fun _ => rfl
  f17 := J.f17
  f18 := fun h => absurd (J.c_18_16 h) (by rw [hi]; decide)
theorem szj_17 (J : SzJ ze rows ec w0 b s W) (hi : b 17 = false) : SzJ ze rows ec w0 (updB b 17) (updS s 7 (.pointer (some ⟨W.heap.size, 0, none⟩))) (W.alloc (.cells #[.slice none 0 0] 32)) where
  below := J.below.alloc J.below.size _
  c_3_0 := J.c_3_0
  c_9_6 := J.c_9_6
  c_9_8 := J.c_9_8
  c_10_6 := J.c_10_6
  c_10_8 := J.c_10_8
  c_10_9 := J.c_10_9
  c_11_4 := J.c_11_4
  c_11_6 := J.c_11_6
  c_11_8 := J.c_11_8
  c_11_9 := J.c_11_9
  c_11_10 := J.c_11_10
  c_12_4 := J.c_12_4
  c_12_6 := J.c_12_6
  c_12_8 := J.c_12_8
  c_12_9 := J.c_12_9
  c_12_10 := J.c_12_10
  c_12_11 := J.c_12_11
  c_13_4 := J.c_13_4
  c_13_6 := J.c_13_6
  c_13_8 := J.c_13_8
  c_13_9 := J.c_13_9
  c_13_10 := J.c_13_10
  c_13_11 := J.c_13_11
  c_13_12 := J.c_13_12
  c_14_4 := J.c_14_4
  c_14_6 := J.c_14_6
  c_14_8 := J.c_14_8
  c_14_9 := J.c_14_9
  c_14_10 := J.c_14_10
  c_14_11 := J.c_14_11
  c_14_12 := J.c_14_12
  c_14_13 := J.c_14_13
  c_15_0 := J.c_15_0
  c_15_3 := J.c_15_3
  c_15_4 := J.c_15_4
  c_15_6 := J.c_15_6
  c_15_8 := J.c_15_8
  c_15_9 := J.c_15_9
  c_15_10 := J.c_15_10
  c_15_11 := J.c_15_11
  c_15_12 := J.c_15_12
  c_15_13 := J.c_15_13
  c_15_14 := J.c_15_14
  c_16_0 := J.c_16_0
  c_16_3 := J.c_16_3
  c_16_4 := J.c_16_4
  c_16_6 := J.c_16_6
  c_16_8 := J.c_16_8
  c_16_9 := J.c_16_9
  c_16_10 := J.c_16_10
  c_16_11 := J.c_16_11
  c_16_12 := J.c_16_12
  c_16_13 := J.c_16_13
  c_16_14 := J.c_16_14
  c_16_15 := J.c_16_15
  c_18_0 := J.c_18_0
  c_18_3 := J.c_18_3
  c_18_4 := J.c_18_4
  c_18_6 := J.c_18_6
  c_18_8 := J.c_18_8
  c_18_9 := J.c_18_9
  c_18_10 := J.c_18_10
  c_18_11 := J.c_18_11
  c_18_12 := J.c_18_12
  c_18_13 := J.c_18_13
  c_18_14 := J.c_18_14
  c_18_15 := J.c_18_15
  c_18_16 := J.c_18_16
  c_18_17 := fun _ => rfl
  f0 := fun h h3 => (J.f0 h h3).alloc _
  f3 := fun h h3 => (J.f3 h h3).alloc _
  f4 := fun h => (J.f4 h).alloc _
  f6 := fun h => (J.f6 h).alloc _
  f8 := fun h => (J.f8 h).alloc _
  f9 := J.f9
  f10 := fun h => (J.f10 h).alloc _
  f11 := J.f11
  f12 := fun h => (J.f12 h).alloc _
  f13 := J.f13
  f14 := fun h h15 => by
    obtain ⟨g, e, hb, hne⟩ := J.f14 h h15
    exact ⟨g, e, (old_alloc W _ (lt_of_block hb)).trans hb, hne⟩
  f15 := fun h => (J.f15 h).alloc _
  f16 := J.f16
  f17 := fun _ _ => ⟨_, rfl, (MapKept.heap_alloc W _).1, J.below.size⟩
  f18 := fun h => absurd (J.c_18_17 h) (by rw [hi]; decide)
theorem szj_18 (J : SzJ ze rows ec w0 b s W) (_hi : b 18 = false) (d0 : b 0 = true) (d3 : b 3 = true) (d4 : b 4 = true) (d6 : b 6 = true) (d8 : b 8 = true) (d9 : b 9 = true) (d10 : b 10 = true) (d11 : b 11 = true) (d12 : b 12 = true) (d13 : b 13 = true) (d14 : b 14 = true) (d15 : b 15 = true) (d16 : b 16 = true) (d17 : b 17 = true) {g : Nat} (h7 : s 7 = .pointer (some ⟨g, 0, none⟩)) (hg7 : W.heap[g]? = some (.cells #[.slice none 0 0] 32 (0, 0))) (hgb : w0.heap.size ≤ g) : SzJ ze rows ec w0 (updB b 18) s (W.setCell ⟨g, 0, none⟩ (s 50)) where
  below := J.below.grown (grown_setCell W g 0 (s 50)) J.below.size (fun q hq => by cases hq; exact hgb)
  c_3_0 := J.c_3_0
  c_9_6 := J.c_9_6
  c_9_8 := J.c_9_8
  c_10_6 := J.c_10_6
  c_10_8 := J.c_10_8
  c_10_9 := J.c_10_9
  c_11_4 := J.c_11_4
  c_11_6 := J.c_11_6
  c_11_8 := J.c_11_8
  c_11_9 := J.c_11_9
  c_11_10 := J.c_11_10
  c_12_4 := J.c_12_4
  c_12_6 := J.c_12_6
  c_12_8 := J.c_12_8
  c_12_9 := J.c_12_9
  c_12_10 := J.c_12_10
  c_12_11 := J.c_12_11
  c_13_4 := J.c_13_4
  c_13_6 := J.c_13_6
  c_13_8 := J.c_13_8
  c_13_9 := J.c_13_9
  c_13_10 := J.c_13_10
  c_13_11 := J.c_13_11
  c_13_12 := J.c_13_12
  c_14_4 := J.c_14_4
  c_14_6 := J.c_14_6
  c_14_8 := J.c_14_8
  c_14_9 := J.c_14_9
  c_14_10 := J.c_14_10
  c_14_11 := J.c_14_11
  c_14_12 := J.c_14_12
  c_14_13 := J.c_14_13
  c_15_0 := J.c_15_0
  c_15_3 := J.c_15_3
  c_15_4 := J.c_15_4
  c_15_6 := J.c_15_6
  c_15_8 := J.c_15_8
  c_15_9 := J.c_15_9
  c_15_10 := J.c_15_10
  c_15_11 := J.c_15_11
  c_15_12 := J.c_15_12
  c_15_13 := J.c_15_13
  c_15_14 := J.c_15_14
  c_16_0 := J.c_16_0
  c_16_3 := J.c_16_3
  c_16_4 := J.c_16_4
  c_16_6 := J.c_16_6
  c_16_8 := J.c_16_8
  c_16_9 := J.c_16_9
  c_16_10 := J.c_16_10
  c_16_11 := J.c_16_11
  c_16_12 := J.c_16_12
  c_16_13 := J.c_16_13
  c_16_14 := J.c_16_14
  c_16_15 := J.c_16_15
  c_18_0 := fun _ => d0
  c_18_3 := fun _ => d3
  c_18_4 := fun _ => d4
  c_18_6 := fun _ => d6
  c_18_8 := fun _ => d8
  c_18_9 := fun _ => d9
  c_18_10 := fun _ => d10
  c_18_11 := fun _ => d11
  c_18_12 := fun _ => d12
  c_18_13 := fun _ => d13
  c_18_14 := fun _ => d14
  c_18_15 := fun _ => d15
  c_18_16 := fun _ => d16
  c_18_17 := fun _ => d17
  f0 := fun _ h => absurd h (by show ¬ b 3 = false; rw [d3]; decide)
  f3 := fun _ h => absurd h (by show ¬ b 15 = false; rw [d15]; decide)
  f4 := fun h => (J.f4 h).store hg7 (by decide)
  f6 := fun h => (J.f6 h).store hg7 (by decide)
  f8 := fun h => (J.f8 h).store hg7 (by decide)
  f9 := J.f9
  f10 := fun h => (J.f10 h).store hg7 (by decide)
  f11 := J.f11
  f12 := fun h => (J.f12 h).store hg7 (by decide)
  f13 := J.f13
  f14 := fun _ h => absurd h (by show ¬ b 15 = false; rw [d15]; decide)
  f15 := fun h => (J.f15 h).kept (grown_setCell W g 0 (s 50)) (.inr (own_type (J.f15 h) hg7 (by decide)))
  f16 := J.f16
  f17 := fun _ h => absurd h (show ¬ true = false by decide)
  f18 := fun _ => ⟨g, h7, heap_set (j := 0) (s 50) hg7, hgb⟩
theorem step_append_src {P : Program} {α : Type} (f : α → List Value) (k : Nat) (hf : ∀ a, (f a).length = k) {ops : Array Oper} {E : Prop}
    {w : World} {o : Oper} {a : Act} {K : Act → World → Prop} {Q : Exit → Act → World → Prop} (hgd : o.guard = none) (s x : Operand) (t : TypeId)
    (ho : o.op = .call { callee := .builtin .append, args := #[s, x], argTypes := #[t, t] })
    (base : Nat) (e : TypeId) (i : TypeInfo) (z : Value) (bytes : Nat) (ht : P.underlying t = some (.slice e)) (hi : P.info? e = some i) (hz : i.zero = some z)
    (hsize : i.size = k) (hby : i.bytes = bytes) (hzs : z.cells.size = k) (hsz : 0 < k)
    (v v2 : Value) (tr news : List α) (hs : a.eval s = v) (hx : a.eval x = v2) (hown : w.ownsRow base e k v tr.length (flatV f tr)) (hsrc : SrcAt w f v2 news) (h1 : ∀ a ∈ news, ∀ u ∈ f a, u.oneCell' = true)
    (h63 : tr.length + news.length ≤ maxLen) (hbytes : (tr.length + news.length) * bytes ≤ 140737488355328) (hbase : base ≤ w.heap.size)
    (h : ∀ v' w', w'.ownsRow base e k v' (tr ++ news).length (flatV f (tr ++ news)) → w.grownBy w' v.ownBlock → K (a.put o.dst v') w') :
    if Region.wanted o (yielded ops a.tmps) = true then Oper.wp P o a w K Q else E := by
  have hw : Region.wanted o (yielded ops a.tmps) = true := by simp [Region.wanted, hgd]
  rw [if_pos hw]
  exact wp_append_src f k hf s x t ho base e i z bytes ht hi hz hsize hby hzs hsz v v2 tr news hs hx hown hsrc h1 h63 hbytes hbase h
theorem szj_init (ze : Tr.E) (rows : List CT) (ec : Array Value) (W : World) (s : Nat → Value) {b : Nat → Bool} (h : ∀ i ∈ [0, 3, 4, 6, 8, 9, 10, 11, 12, 13, 14, 15, 16, 17, 18], b i = false) : SzJ ze rows ec W b s W where
  below := Below.refl _ _
  c_3_0 := fun hc => absurd hc (by rw [h 3 (by decide)]; decide)
  c_9_6 := fun hc => absurd hc (by rw [h 9 (by decide)]; decide)
  c_9_8 := fun hc => absurd hc (by rw [h 9 (by decide)]; decide)
  c_10_6 := fun hc => absurd hc (by rw [h 10 (by decide)]; decide)
  c_10_8 := fun hc => absurd hc (by rw [h 10 (by decide)]; decide)
  c_10_9 := fun hc => absurd hc (by rw [h 10 (by decide)]; decide)
  c_11_4 := fun hc => absurd hc (by rw [h 11 (by decide)]; decide)
  c_11_6 := fun hc => absurd hc (by rw [h 11 (by decide)]; decide)
  c_11_8 := fun hc => absurd hc (by rw [h 11 (by decide)]; decide)
  c_11_9 := fun hc => absurd hc (by rw [h 11 (by decide)]; decide)
  c_11_10 := fun hc => absurd hc (by rw [h 11 (by decide)]; decide)
  c_12_4 := fun hc => absurd hc (by rw [h 12 (by decide)]; decide)
  c_12_6 := fun hc => absurd hc (by rw [h 12 (by decide)]; decide)
  c_12_8 := fun hc => absurd hc (by rw [h 12 (by decide)]; decide)
  c_12_9 := fun hc => absurd hc (by rw [h 12 (by decide)]; decide)
  c_12_10 := fun hc => absurd hc (by rw [h 12 (by decide)]; decide)
  c_12_11 := fun hc => absurd hc (by rw [h 12 (by decide)]; decide)
  c_13_4 := fun hc => absurd hc (by rw [h 13 (by decide)]; decide)
  c_13_6 := fun hc => absurd hc (by rw [h 13 (by decide)]; decide)
  c_13_8 := fun hc => absurd hc (by rw [h 13 (by decide)]; decide)
  c_13_9 := fun hc => absurd hc (by rw [h 13 (by decide)]; decide)
  c_13_10 := fun hc => absurd hc (by rw [h 13 (by decide)]; decide)
  c_13_11 := fun hc => absurd hc (by rw [h 13 (by decide)]; decide)
  c_13_12 := fun hc => absurd hc (by rw [h 13 (by decide)]; decide)
  c_14_4 := fun hc => absurd hc (by rw [h 14 (by decide)]; decide)
  c_14_6 := fun hc => absurd hc (by rw [h 14 (by decide)]; decide)
  c_14_8 := fun hc => absurd hc (by rw [h 14 (by decide)]; decide)
  c_14_9 := fun hc => absurd hc (by rw [h 14 (by decide)]; decide)
  c_14_10 := fun hc => absurd hc (by rw [h 14 (by decide)]; decide)
  c_14_11 := fun hc => absurd hc (by rw [h 14 (by decide)]; decide)
  c_14_12 := fun hc => absurd hc (by rw [h 14 (by decide)]; decide)
  c_14_13 := fun hc => absurd hc (by rw [h 14 (by decide)]; decide)
  c_15_0 := fun hc => absurd hc (by rw [h 15 (by decide)]; decide)
  c_15_3 := fun hc => absurd hc (by rw [h 15 (by decide)]; decide)
  c_15_4 := fun hc => absurd hc (by rw [h 15 (by decide)]; decide)
  c_15_6 := fun hc => absurd hc (by rw [h 15 (by decide)]; decide)
  c_15_8 := fun hc => absurd hc (by rw [h 15 (by decide)]; decide)
  c_15_9 := fun hc => absurd hc (by rw [h 15 (by decide)]; decide)
  c_15_10 := fun hc => absurd hc (by rw [h 15 (by decide)]; decide)
  c_15_11 := fun hc => absurd hc (by rw [h 15 (by decide)]; decide)
  c_15_12 := fun hc => absurd hc (by rw [h 15 (by decide)]; decide)
  c_15_13 := fun hc => absurd hc (by rw [h 15 (by decide)]; decide)
  c_15_14 := fun hc => absurd hc (by rw [h 15 (by decide)]; decide)
  c_16_0 := fun hc => absurd hc (by rw [h 16 (by decide)]; decide)
  c_16_3 := fun hc => absurd hc (by rw [h 16 (by decide)]; decide)
  c_16_4 := fun hc => absurd hc (by rw [h 16 (by decide)]; decide)
  c_16_6 := fun hc => absurd hc (by rw [h 16 (by decide)]; decide)
  c_16_8 := fun hc => absurd hc (by rw [h 16 (by decide)]; decide)
  c_16_9 := fun hc => absurd hc (by rw [h 16 (by decide)]; decide)
  c_16_10 := fun hc => absurd hc (by rw [h 16 (by decide)]; decide)
  c_16_11 := fun hc => absurd hc (by rw [h 16 (by decide)]; decide)
  c_16_12 := fun hc => absurd hc (by rw [h 16 (by decide)]; decide)
  c_16_13 := fun hc => absurd hc (by rw [h 16 (by decide)]; decide)
  c_16_14 := fun hc => absurd hc (by rw [h 16 (by decide)]; decide)
  c_16_15 := fun hc => absurd hc (by rw [h 16 (by decide)]; decide)
  c_18_0 := fun hc => absurd hc (by rw [h 18 (by decide)]; decide)
  c_18_3 := fun hc => absurd hc (by rw [h 18 (by decide)]; decide)
  c_18_4 := fun hc => absurd hc (by rw [h 18 (by decide)]; decide)
  c_18_6 := fun hc => absurd hc (by rw [h 18 (by decide)]; decide)
  c_18_8 := fun hc => absurd hc (by rw [h 18 (by decide)]; decide)
  c_18_9 := fun hc => absurd hc (by rw [h 18 (by decide)]; decide)
  c_18_10 := fun hc => absurd hc (by rw [h 18 (by decide)]; decide)
  c_18_11 := fun hc => absurd hc (by rw [h 18 (by decide)]; decide)
  c_18_12 := fun hc => absurd hc (by rw [h 18 (by decide)]; decide)
  c_18_13 := fun hc => absurd hc (by rw [h 18 (by decide)]; decide)
  c_18_14 := fun hc => absurd hc (by rw [h 18 (by decide)]; decide)
  c_18_15 := fun hc => absurd hc (by rw [h 18 (by decide)]; decide)
  c_18_16 := fun hc => absurd hc (by rw [h 18 (by decide)]; decide)
  c_18_17 := fun hc => absurd hc (by rw [h 18 (by decide)]; decide)
  f0 := fun hc _ => absurd hc (by rw [h 0 (by decide)]; decide)
  f3 := fun hc _ => absurd hc (by rw [h 3 (by decide)]; decide)
  f4 := fun hc => absurd hc (by rw [h 4 (by decide)]; decide)
  f6 := fun hc => absurd hc (by rw [h 6 (by decide)]; decide)
  f8 := fun hc => absurd hc (by rw [h 8 (by decide)]; decide)
  f9 := fun hc => absurd hc (by rw [h 9 (by decide)]; decide)
  f10 := fun hc => absurd hc (by rw [h 10 (by decide)]; decide)
  f11 := fun hc => absurd hc (by rw [h 11 (by decide)]; decide)
  f12 := fun hc => absurd hc (by rw [h 12 (by decide)]; decide)
  f13 := fun hc => absurd hc (by rw [h 13 (by decide)]; decide)
  f14 := fun hc _ => absurd hc (by rw [h 14 (by decide)]; decide)
  f15 := fun hc => absurd hc (by rw [h 15 (by decide)]; decide)
  f16 := fun hc => absurd hc (by rw [h 16 (by decide)]; decide)
  f17 := fun hc _ => absurd hc (by rw [h 17 (by decide)]; decide)
  f18 := fun hc => absurd hc (by rw [h 18 (by decide)]; decide)
theorem szj_src (J : SzJ ze rows ec w0 b s W) (h14 : b 14 = true) (h15 : b 15 = false) : SrcAt W cCells (s 49) [zRow ze (s 47)] := by
  obtain ⟨g, e, hg, _⟩ := J.f14 h14 h15
  rw [e]
  refine .inr ⟨g, 0, 1, rfl, fun j u hj => ?_⟩
  rw [flatV_cons, flatV_nil, List.append_nil] at hj
  rw [Nat.zero_add]
  refine cell_of_blkP hg ?_
  have e2 : cCells (zRow ze (s 47)) = [.string ⟨#[90]⟩, .bool true, .slice none 0 0, s 47] := rfl
  rw [e2] at hj
  rw [← Array.getElem?_toList]
  exact hj
theorem szj_one (J : SzJ ze rows ec w0 b s W) (h12 : b 12 = true) : ∀ a ∈ [zRow ze (s 47)], ∀ u ∈ cCells a, u.oneCell' = true := by
  intro a ha u hu
  obtain rfl := List.mem_singleton.1 ha
  have e2 : cCells (zRow ze (s 47)) = [.string ⟨#[90]⟩, .bool true, .slice none 0 0, s 47] := rfl
  rw [e2] at hu
  simp only [List.mem_cons, List.not_mem_nil, or_false] at hu
  obtain ⟨g, e, _⟩ := J.f12 h12
  rcases hu with rfl | rfl | rfl | rfl
  · rfl
  · rfl
  · rfl
  · rw [e]; rfl
/-- the class that has been laid reads -/
theorem szj_read {a : Value} (J : SzJ ze rows #[.int .i64 ze.kind, .int .i64 ze.op, .int .i64 ze.int, .string ze.name, .bool ze.at_, a] w0 b s W) (h12 : b 12 = true) (hbd : BdE ze) (ha : SlE W a ze.args) : ReadC W (zClass ze) (.slice none 0 0) (s 47) := by
  obtain ⟨g1, e1, k1⟩ := J.f12 h12
  obtain ⟨g2, e2, k2⟩ := J.f10 (J.c_12_10 h12)
  obtain ⟨g3, e3, k3⟩ := J.f4 (J.c_12_4 h12)
  obtain ⟨g4, e4, k4⟩ := J.f6 (J.c_12_6 h12)
  obtain ⟨g5, e5, k5⟩ := J.f8 (J.c_12_8 h12)
  rw [e4, e5] at k2
  rw [e2, e3] at k1
  have hE := slE_blk1 k4 hbd ha
  have hR := slS_blk1 (s := .mk 9 ⟨#[]⟩ [] [] []) k5 ⟨show Tr.I64 9 by decide, show (⟨#[]⟩ : ByteArray).size ≤ maxLen by decide⟩ (.nil _ _) (.nil _ _) (.nil _ _)
  have hB := slS_blk1 (s := .mk 4 ⟨#[]⟩ [ze] [.mk 9 ⟨#[]⟩ [] [] []] []) k2 ⟨show Tr.I64 4 by decide, show (⟨#[]⟩ : ByteArray).size ≤ maxLen by decide⟩ hE hR (.nil _ _)
  have hP := slStr_blk (l := [⟨#[97]⟩, ⟨#[98]⟩]) k3 rfl (by decide) (by decide)
  refine ⟨show (⟨#[90]⟩ : ByteArray).size ≤ maxLen by decide, slStr_nil _ _ _, ?_⟩
  rw [e1]
  exact slM_blk1 (m := ⟨⟨#[109]⟩, [⟨#[97]⟩, ⟨#[98]⟩], zBody ze⟩) k1 (show (⟨#[109]⟩ : ByteArray).size ≤ maxLen by decide) hP hB
theorem sizeP_z (l : List Tr.C) (e : Tr.E) : Sy.sizeP (l ++ [zClass e]) = Sy.sizeP l + 6 + Sy.sizeE e := by
  unfold Sy.sizeP
  rw [List.map_append, List.sum_append]
  simp [zClass, zBody, Sy.sizeC, Sy.sizeM, Sy.sizeSs, Sy.sizeS, Sy.sizeEs]
  omega
end Go.Proofs.YtlgfickhkejdjaaGreatDoor
