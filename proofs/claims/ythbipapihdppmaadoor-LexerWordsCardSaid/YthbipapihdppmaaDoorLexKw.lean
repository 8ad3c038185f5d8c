/-
  Binary search in the increasing list of keywords finds just the keywords.
-/
import Derived.Test.YthbipapihdppmaaDoorLexSpec
import Derived.Shelf.Spec.SearchS
namespace Go.Proofs.YthbipapihdppmaaDoor

theorem bl_trans : ∀ a b c : List UInt8, Op.bytesLess a b = true → Op.bytesLess b c = true → Op.bytesLess a c = true
  | _, [], _, h, _ => by simp [Op.bytesLess] at h
  | _, _ :: _, [], _, h => by simp [Op.bytesLess] at h
  | [], _ :: _, _ :: _, _, _ => by simp [Op.bytesLess]
  | x :: a, y :: b, z :: c, h1, h2 => by
    simp only [Op.bytesLess, Bool.or_eq_true, Bool.and_eq_true, decide_eq_true_eq, beq_iff_eq] at h1 h2 ⊢
    rcases h1 with h1 | ⟨rfl, h1⟩
    · rcases h2 with h2 | ⟨rfl, _⟩
      · exact .inl (UInt8.lt_trans h1 h2)
      · exact .inl h1
    · rcases h2 with h2 | ⟨rfl, h2⟩
      · exact .inl h2
      · exact .inr ⟨rfl, bl_trans a b c h1 h2⟩
theorem bl_irrefl : ∀ a : List UInt8, Op.bytesLess a a = false
  | [] => rfl
  | x :: a => by
    simp only [Op.bytesLess, Bool.or_eq_false_iff, decide_eq_false_iff_not, Bool.and_eq_false_iff]
    exact ⟨UInt8.lt_irrefl x, .inr (bl_irrefl a)⟩

theorem bs_inv (less : Nat → Bool) (n : Nat) (hm : ∀ a b, a ≤ b → b < n → less b = true → less a = true) : ∀ f lo hi, hi - lo ≤ f → lo ≤ hi → hi ≤ n →
    (∀ t, t < lo → less t = true) → (∀ t, hi ≤ t → t < n → less t = false) →
    Lib.bsGo less f lo hi ≤ n ∧ (∀ t, t < Lib.bsGo less f lo hi → less t = true) ∧ (∀ t, Lib.bsGo less f lo hi ≤ t → t < n → less t = false)
  | 0, lo, hi, hf, h1, h2, h3, h4 => by
    have e : lo = hi := by omega
    subst e
    exact ⟨h2, h3, h4⟩
  | f + 1, lo, hi, hf, h1, h2, h3, h4 => by
    unfold Lib.bsGo
    by_cases h : lo < hi
    · rw [if_pos h]
      cases hl : less ((lo + hi) / 2)
      · rw [if_neg (by simp)]
        refine bs_inv less n hm f lo _ (by omega) (by omega) (by omega) h3 fun t ht htn => ?_
        cases hx : less t
        · rfl
        · rw [hm _ t ht htn hx] at hl; cases hl
      · rw [if_pos rfl]
        refine bs_inv less n hm f _ hi (by omega) (by omega) h2 (fun t ht => hm t _ (by omega) (by omega) hl) h4
    · rw [if_neg h]
      have e : lo = hi := by omega
      subst e
      exact ⟨h2, h3, h4⟩

/-- the search finds just what the increasing list contains -/
theorem bs_found (ls : List (List UInt8)) (hs : ∀ a b, a < b → b < ls.length → Op.bytesLess (ls.getD a []) (ls.getD b []) = true) (x : List UInt8) (I : Nat)
    (hI : I = Lib.bsGo (fun t => Op.bytesLess (ls.getD t []) x) ls.length 0 ls.length) : decide (I < ls.length ∧ ls.getD I [] = x) = ls.contains x := by
  have hmono : ∀ a b, a ≤ b → b < ls.length → (fun t => Op.bytesLess (ls.getD t []) x) b = true → (fun t => Op.bytesLess (ls.getD t []) x) a = true := by
    intro a b hab hb h
    by_cases e : a = b
    · subst e; exact h
    · exact bl_trans _ _ _ (hs a b (by omega) hb) h
  obtain ⟨i1, i2, i3⟩ := bs_inv _ ls.length hmono ls.length 0 ls.length (by omega) (by omega) (Nat.le_refl _) (fun t ht => by omega) (fun t h1 h2 => by omega)
  rw [← hI] at i1 i2 i3
  rw [Bool.eq_iff_iff, decide_eq_true_eq, List.contains_iff_mem]
  constructor
  · rintro ⟨h1, h2⟩
    rw [← h2, List.getD_eq_getElem?_getD, List.getElem?_eq_getElem h1]
    exact List.getElem_mem h1
  · intro h
    obtain ⟨k, hk, he⟩ := List.getElem_of_mem h
    have hek : ls.getD k [] = x := by rw [List.getD_eq_getElem?_getD, List.getElem?_eq_getElem hk]; exact he
    have hIk : I ≤ k := by
      apply Nat.le_of_not_lt
      intro hlt
      have := i2 k hlt
      simp only [hek, bl_irrefl] at this
      cases this
    have hlt : I < ls.length := by omega
    refine ⟨hlt, ?_⟩
    by_cases e : I = k
    · rw [e]; exact hek
    · have h5 := hs I k (by omega) hk
      rw [hek] at h5
      have h6 := i3 I (Nat.le_refl _) hlt
      simp only [h5] at h6
      cases h6

theorem kw_sorted : ∀ a b, a < b → b < Lex.keywords.length → Op.bytesLess (Lex.keywords.getD a []) (Lex.keywords.getD b []) = true := by
  intro a b hab hb
  have h : ∀ b, b < 24 → ∀ a, a < b → Op.bytesLess (Lex.keywords.getD a []) (Lex.keywords.getD b []) = true := by decide +kernel
  exact h b hb a hab

end Go.Proofs.YthbipapihdppmaaDoor
