/-
  A text of lines, cut at its line feeds, is its lines. No program in sight.
-/
import Derived.Test.YtlgfickhkejdjaaGreatDoorMSyLines
import Derived.Lib.Split
import Derived.Lib.SplitLaws
import Derived.Lib.TrimByte
namespace Go.Proofs.YtlgfickhkejdjaaGreatDoor
namespace Sy
open Tr
theorem index_none : ∀ {s : Bytes}, (∀ b ∈ s, b ≠ 10) → Lib.index s [10] = -1
  | [], _ => rfl
  | b :: r, h => by
    have h1 : b ≠ 10 := h b (by simp)
    have h2 := index_none (s := r) fun x hx => h x (by simp [hx])
    unfold Lib.index
    rw [if_neg (by simp [List.isPrefixOf, h1.symm]), h2]
    rfl
theorem index_some : ∀ {s : Bytes} (r : Bytes), (∀ b ∈ s, b ≠ 10) → Lib.index (s ++ 10 :: r) [10] = (s.length : Nat)
  | [], r, _ => by
    show Lib.index (10 :: r) [10] = 0
    unfold Lib.index
    rw [if_pos (by simp [List.isPrefixOf])]
  | b :: s, r, h => by
    have h1 : b ≠ 10 := h b (by simp)
    have h2 := index_some (s := s) r fun x hx => h x (by simp [hx])
    show Lib.index (b :: (s ++ 10 :: r)) [10] = _
    unfold Lib.index
    rw [if_neg (by simp [List.isPrefixOf, h1.symm]), h2, if_neg (by rw [beq_iff_eq]; omega), List.length_cons]
    omega
theorem Good.no10 {s : Bytes} (h : Cl s) : ∀ b ∈ s, b ≠ 10 := fun b hb e => by
  have := h b hb
  rw [e] at this
  revert this
  decide
/-- no line feed in a line, its first byte not a space -/
structure LnOk (x : Ln) : Prop where
  no10 : ∀ b ∈ x.2, b ≠ 10
  hd : ∃ b r, x.2 = b :: r ∧ b ≠ 32
theorem LnOk.all {x : Ln} (h : LnOk x) : ∀ b ∈ lnT x, b ≠ 10 := fun b hb => by
  unfold lnT at hb
  rcases List.mem_append.1 hb with hb | hb
  · unfold ind at hb
    rw [List.eq_of_mem_replicate hb]
    decide
  · exact h.no10 b hb
theorem good_ok {d : Nat} {t u : Bytes} (h : Good t) (hu : ∀ b ∈ u, b ≠ 10) : LnOk (d, t ++ u) := by
  obtain ⟨hc, b, r, rfl, hb⟩ := h
  refine ⟨fun x hx => ?_, b, r ++ u, rfl, hb⟩
  rcases List.mem_append.1 hx with hx | hx
  · exact Good.no10 hc x hx
  · exact hu x hx
theorem Run.ok {d e : Nat} {l : List Ln} (h : Run d l e) : ∀ x ∈ l, LnOk x := by
  induction h with
  | nil d => intro x hx; simp at hx
  | plain t h _ ih =>
    intro x hx
    rcases List.mem_cons.1 hx with rfl | hx
    · exact good_ok h (by decide)
    · exact ih x hx
  | opens t h _ ih =>
    intro x hx
    rcases List.mem_cons.1 hx with rfl | hx
    · exact good_ok h (by decide)
    · exact ih x hx
  | other _ ih =>
    intro x hx
    rcases List.mem_cons.1 hx with rfl | hx
    · exact ⟨show ∀ b ∈ ([125, 32, 101, 108, 115, 101, 32, 123] : Bytes), b ≠ 10 by decide, _, _, rfl, by decide⟩
    · exact ih x hx
  | closes _ ih =>
    intro x hx
    rcases List.mem_cons.1 hx with rfl | hx
    · exact ⟨show ∀ b ∈ ([125] : Bytes), b ≠ 10 by decide, _, _, rfl, by decide⟩
    · exact ih x hx
/-- the lines with line feeds between them -/
def between : List Ln → Bytes
  | [] => []
  | [x] => lnT x
  | x :: y :: r => lnT x ++ 10 :: between (y :: r)
theorem lns_cons (x : Ln) (r : List Ln) : lns (x :: r) = lnT x ++ 10 :: lns r := by simp [lns]
theorem lns_between : ∀ (l : List Ln), l ≠ [] → lns l = between l ++ [10]
  | [], h => absurd rfl h
  | [x], _ => by rw [lns_cons]; rfl
  | x :: y :: r, _ => by
    rw [lns_cons, lns_between (y :: r) (by simp)]
    show _ = lnT x ++ 10 :: between (y :: r) ++ [10]
    simp
theorem count_between : ∀ (l : List Ln), l ≠ [] → (∀ x ∈ l, LnOk x) → Lib.count (between l) [10] + 1 = l.length
  | [], h, _ => absurd rfl h
  | [x], _, h => by
    show Lib.count (lnT x) [10] + 1 = 1
    rw [Lib.count_miss (index_none (h x (by simp)).all)]
  | x :: y :: r, _, h => by
    have ih := count_between (y :: r) (by simp) fun z hz => h z (by simp at hz ⊢; exact .inr hz)
    show Lib.count (lnT x ++ 10 :: between (y :: r)) [10] + 1 = _
    rw [Lib.count_hit (by simp) (index_some (between (y :: r)) (h x (by simp)).all)]
    have e : (lnT x ++ 10 :: between (y :: r)).drop ((lnT x).length + [(10 : UInt8)].length) = between (y :: r) := by
      rw [← List.drop_drop, List.drop_left]
      rfl
    rw [e, List.length_cons, ← ih]
    omega
theorem split_between : ∀ (k : Nat) (l : List Ln), l.length = k + 1 → (∀ x ∈ l, LnOk x) → Lib.splitK [10] 0 k (between l) = l.map lnT
  | k, [], h, _ => by simp at h
  | k, [x], h, _ => by
    obtain rfl : k = 0 := by simpa using h.symm
    rfl
  | 0, x :: y :: r, h, _ => by simp at h
  | k + 1, x :: y :: r, h, hx => by
    have ih := split_between k (y :: r) (by simpa using h) fun z hz => hx z (by simp at hz ⊢; exact .inr hz)
    have hi := index_some (between (y :: r)) (hx x (by simp)).all
    show Lib.splitK [10] 0 (k + 1) (lnT x ++ 10 :: between (y :: r)) = _
    unfold Lib.splitK
    rw [hi, if_neg (by rw [beq_iff_eq]; omega), Int.toNat_natCast, Nat.add_zero, List.take_left, List.map_cons, ← ih]
    congr 1
    have e : (lnT x ++ 10 :: between (y :: r)).drop ((lnT x).length + [(10 : UInt8)].length) = between (y :: r) := by
      rw [← List.drop_drop, List.drop_left]
      rfl
    rw [e]
/-- a line without its spaces -/
theorem trim_line {x : Ln} (h : LnOk x) : Lib.trimLeftB (lnT x) 32 = x.2 := by
  obtain ⟨b, r, e, hb⟩ := h.hd
  unfold Lib.trimLeftB lnT ind
  rw [e]
  have key : ∀ n : Nat, (List.replicate n (32 : UInt8) ++ b :: r).dropWhile (· == 32) = b :: r := by
    intro n
    induction n with
    | zero => rw [List.replicate_zero, List.nil_append, List.dropWhile_cons, if_neg (by rw [beq_iff_eq]; exact hb)]
    | succ n ih => rw [List.replicate_succ, List.cons_append, List.dropWhile_cons, if_pos (by decide)]; exact ih
  exact key _
theorem between_len : ∀ l : List Ln, l.length ≤ (between l).length + 1
  | [] => by simp
  | [x] => by simp
  | x :: y :: r => by
    have ih := between_len (y :: r)
    show (y :: r).length + 1 ≤ (lnT x ++ 10 :: between (y :: r)).length + 1
    rw [List.length_append, List.length_cons (a := (10 : UInt8))]
    omega
theorem lnT_le : ∀ (l : List Ln) (x : Ln), x ∈ l → (lnT x).length ≤ (between l).length
  | [], x, h => by simp at h
  | [y], x, h => by obtain rfl := List.mem_singleton.1 h; exact Nat.le_refl _
  | y :: z :: r, x, h => by
    show _ ≤ (lnT y ++ 10 :: between (z :: r)).length
    rw [List.length_append, List.length_cons (a := (10 : UInt8))]
    rcases List.mem_cons.1 h with rfl | h
    · omega
    · have := lnT_le (z :: r) x h; omega
/-- the first of some lines -/
theorem run_inv {d e : Nat} {x : Ln} {r : List Ln} (h : Run d (x :: r) e) : (∃ t, Good t ∧ x = (d, t ++ [59]) ∧ Run d r e) ∨ (∃ t, Good t ∧ x = (d, t ++ [123]) ∧ Run (d + 1) r e) ∨ (∃ d', d = d' + 1 ∧ x = (d', [125, 32, 101, 108, 115, 101, 32] ++ [123]) ∧ Run (d' + 1) r e) ∨ (∃ d', d = d' + 1 ∧ x = (d', [] ++ [125]) ∧ Run d' r e) := by
  cases h with
  | plain t h hr => exact .inl ⟨t, h, rfl, hr⟩
  | opens t h hr => exact .inr (.inl ⟨t, h, rfl, hr⟩)
  | other hr => exact .inr (.inr (.inl ⟨_, rfl, rfl, hr⟩))
  | closes hr => exact .inr (.inr (.inr ⟨_, rfl, rfl, hr⟩))
theorem split_lines {ls : List Ln} (hne : ls ≠ []) (hok : ∀ x ∈ ls, LnOk x) {U : ByteArray} (hU : U.data.toList = between ls) : Lib.countB U ⟨#[10]⟩ + 1 = ls.length ∧ ∀ (j : Nat) (x : Ln), ls[j]? = some x → (Lib.splitB ⟨#[10]⟩ 0 (Lib.countB U ⟨#[10]⟩) U)[j]? = some ⟨(lnT x).toArray⟩ := by
  have hc : Lib.countB U ⟨#[10]⟩ + 1 = ls.length := by
    show Lib.count U.data.toList [10] + 1 = _
    rw [hU]
    exact count_between ls hne hok
  refine ⟨hc, fun j x hj => ?_⟩
  have h1 := Lib.splitB_data ⟨#[10]⟩ 0 (Lib.countB U ⟨#[10]⟩) U
  rw [hU] at h1
  have h2 := split_between (Lib.countB U ⟨#[10]⟩) ls hc.symm hok
  have h3 : ((Lib.splitB ⟨#[10]⟩ 0 (Lib.countB U ⟨#[10]⟩) U).map (·.data.toList))[j]? = some (lnT x) := by
    rw [h1]
    show (Lib.splitK [10] 0 (Lib.countB U ⟨#[10]⟩) (between ls))[j]? = _
    rw [h2, List.getElem?_map, hj]
    rfl
  rw [List.getElem?_map, Option.map_eq_some_iff] at h3
  obtain ⟨s, hs, e⟩ := h3
  rw [hs, ← e]
theorem lnT_size (x : Ln) : (⟨(lnT x).toArray⟩ : ByteArray).size = 2 * x.1 + x.2.length := by
  show (lnT x).toArray.size = _
  unfold lnT ind
  simp
end Sy
end Go.Proofs.YtlgfickhkejdjaaGreatDoor
