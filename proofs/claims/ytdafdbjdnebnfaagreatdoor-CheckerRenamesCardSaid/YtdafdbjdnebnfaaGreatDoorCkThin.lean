/-
  Few nodes: no list is long. No program in sight.
-/
import Derived.Test.YtdafdbjdnebnfaaGreatDoorCkRenS
namespace Go.Proofs.YtdafdbjdnebnfaaGreatDoor
open Tr

theorem leftSs_len : ∀ (l : List S) (n : Int), 0 ≤ leftSs l n → (l.length : Int) ≤ n
  | [], n, h => by rw [leftSs] at h; simpa using h
  | s :: r, n, h => by
    by_cases h0 : n < 0
    · rw [leftSs, if_pos h0] at h; omega
    · rw [leftSs, if_neg h0] at h
      have h1 := leftSs_len r _ h
      have h2 : leftS s n ≤ n - 1 := by
        obtain ⟨k, nm, x, b, l⟩ := s
        unfold leftS
        split
        · omega
        · simp only []
          have b1 := (leftEs_bd x (n - 1) (by omega))
          split
          · have b2 := (leftSs_bd b (leftEs x (n - 1)) (by omega))
            split
            · have b3 := (leftSs_bd l (leftSs b (leftEs x (n - 1))) (by omega)); omega
            · omega
          · omega
      simp only [List.length_cons]
      omega
mutual
theorem thinE_of : ∀ (e : E) (n : Int), 0 ≤ leftE e n → n ≤ 1000000 → thinE e
  | .mk k o i nm a l, n, h, hn => by
    rw [leftE] at h
    split at h
    · omega
    · rw [thinE]
      have := leftEs_len l _ h
      exact ⟨by omega, thinEs_of l _ h (by omega)⟩
theorem thinEs_of : ∀ (l : List E) (n : Int), 0 ≤ leftEs l n → n ≤ 1000000 → thinEs l
  | [], n, _, _ => by rw [thinEs]; trivial
  | e :: r, n, h, hn => by
    by_cases h0 : n < 0
    · rw [leftEs, if_pos h0] at h; omega
    · rw [leftEs, if_neg h0] at h
      have b1 := leftE_bd e n (by omega)
      have a1 : 0 ≤ leftE e n := by
        rcases Int.lt_or_le (leftE e n) 0 with hlt | hge
        · rw [leftEs_neg hlt] at h; omega
        · exact hge
      rw [thinEs]
      exact ⟨thinE_of e n a1 hn, thinEs_of r _ h (by omega)⟩
end
mutual
theorem thinS_of : ∀ (s : S) (n : Int), 0 ≤ leftS s n → n ≤ 1000000 → thinS s
  | .mk k nm x b l, n, h, hn => by
    unfold leftS at h
    split at h
    · omega
    · simp only [] at h
      have a1 : 0 ≤ leftEs x (n - 1) := by
        rcases Int.lt_or_le (leftEs x (n - 1)) 0 with hlt | hge
        · rw [if_neg (by omega : ¬ 0 ≤ leftEs x (n - 1)), if_neg (by omega)] at h; omega
        · exact hge
      rw [if_pos a1] at h
      have a2 : 0 ≤ leftSs b (leftEs x (n - 1)) := by
        rcases Int.lt_or_le (leftSs b (leftEs x (n - 1))) 0 with hlt | hge
        · rw [if_neg (by omega)] at h; omega
        · exact hge
      rw [if_pos a2] at h
      have b0 := leftEs_len x _ a1
      have b2 := (leftEs_bd x (n - 1) (by omega)).2
      have b3 := (leftSs_bd b (leftEs x (n - 1)) (by omega)).2
      have b4 := leftSs_len b _ a2
      have b5 := leftSs_len l _ h
      rw [thinS]
      exact ⟨⟨by omega, thinEs_of x _ a1 (by omega)⟩, ⟨by omega, thinSs_of b _ a2 (by omega)⟩, by omega, thinSs_of l _ h (by omega)⟩
theorem thinSs_of : ∀ (l : List S) (n : Int), 0 ≤ leftSs l n → n ≤ 1000000 → thinSs l
  | [], n, _, _ => by rw [thinSs]; trivial
  | s :: r, n, h, hn => by
    by_cases h0 : n < 0
    · rw [leftSs, if_pos h0] at h; omega
    · rw [leftSs, if_neg h0] at h
      have b1 := leftS_bd s n (by omega)
      have a1 : 0 ≤ leftS s n := by
        rcases Int.lt_or_le (leftS s n) 0 with hlt | hge
        · rw [leftSs_neg hlt] at h; omega
        · exact hge
      rw [thinSs]
      exact ⟨thinS_of s n a1 hn, thinSs_of r _ h (by omega)⟩
end
/-- a method's body is thin -/
def ThinM (m : M) : Prop := m.body.length ≤ 1000000 ∧ thinSs m.body
theorem thinM_of (m : M) (n : Int) (h : 0 ≤ leftM m n) (h0 : 0 ≤ n) (hn : n ≤ 1000000) : ThinM m := by
  unfold leftM at h
  split at h
  · omega
  · simp only [] at h
    have := shortL_le m.params (n - 1) (by omega)
    split at h
    · have h2 := leftSs_len m.body _ h
      exact ⟨by omega, thinSs_of _ _ h (by omega)⟩
    · omega
theorem thinMs_of : ∀ (l : List M) (n : Int), 0 ≤ leftMs l n → n ≤ 1000000 → ∀ m ∈ l, ThinM m
  | [], n, _, _ => by intro m hm; cases hm
  | x :: r, n, h, hn => by
    by_cases h0 : n < 0
    · rw [leftMs, if_pos h0] at h; omega
    · rw [leftMs, if_neg h0] at h
      have a1 : 0 ≤ leftM x n := by
        have := leftMs_le r (leftM x n)
        omega
      have := leftM_le x n (by omega)
      intro m hm
      rcases List.mem_cons.1 hm with rfl | hm
      · exact thinM_of m n a1 (by omega) hn
      · exact thinMs_of r _ h (by omega) m hm
theorem thinC_of (c : C) (n : Int) (h : 0 ≤ leftC c n) (h0 : 0 ≤ n) (hn : n ≤ 1000000) : ∀ m ∈ c.methods, ThinM m := by
  unfold leftC at h
  split at h
  · omega
  · have := shortL_le c.fields (n - 1) (by omega)
    exact thinMs_of _ _ h (by omega)
theorem thinCs_of : ∀ (l : List C) (n : Int), 0 ≤ leftCs l n → n ≤ 1000000 → ∀ c ∈ l, ∀ m ∈ c.methods, ThinM m
  | [], n, _, _ => by intro m hm; cases hm
  | x :: r, n, h, hn => by
    by_cases h0 : n < 0
    · rw [leftCs, if_pos h0] at h; omega
    · rw [leftCs, if_neg h0] at h
      have a1 : 0 ≤ leftC x n := by
        have := leftCs_le r (leftC x n)
        omega
      have := leftC_le x n (by omega)
      intro m hm
      rcases List.mem_cons.1 hm with rfl | hm
      · exact thinC_of m n a1 (by omega) hn
      · exact thinCs_of r _ h (by omega) m hm
theorem thinP_of {cs : List C} {n : Int} (h : fewP cs n = true) (hn : n ≤ 1000000) : ∀ c ∈ cs, ∀ m ∈ c.methods, ThinM m := thinCs_of cs n (of_decide_eq_true h) hn
end Go.Proofs.YtdafdbjdnebnfaaGreatDoor
