/-
  A spoiled expression's text, and the program that prints it. No program in sight.
-/
import Derived.Test.YtlgfickhkejdjaaGreatDoorMSySpoil
import Derived.Test.YtlgfickhkejdjaaGreatDoorMSyFew
namespace Go.Proofs.YtlgfickhkejdjaaGreatDoor
namespace Sy
open Tr
/-- how long a spoiled expression's text can be -/
theorem spoil_small {e : E} (h : fewE e 60 = true) (hi : i64E e) : ∀ r, (text (spoil r e)).length ≤ 20000 := by
  obtain ⟨k, o, i, nm, a, l⟩ := e
  have h1 : 0 ≤ leftE (.mk k o i nm a l) 60 := of_decide_eq_true h
  rw [leftE] at h1
  have hnm : nm.size ≤ 40 := by
    by_cases h4 : 40 < nm.size
    · rw [if_pos h4] at h1; omega
    · omega
  rw [if_neg (by omega)] at h1
  rw [i64E] at hi
  obtain ⟨b1, b2, _⟩ := textEs_few l _ h1 hi.2
  have hl : tl (texts l) ≤ 6000 := by omega
  have key : ∀ (k o i : Int) (nm : ByteArray) (a : Bool) (l : List E), I64 i → nm.size ≤ 100 → tl (texts l) ≤ 10000 → (text (.mk k o i nm a l)).length ≤ 20000 := fun k o i nm a l h1 h2 h3 => by
    rw [text]
    have := node_len k o i nm.data.toList a (texts l) h1
    rw [data_len] at this
    omega
  intro r
  have hdot : (nm ++ ⟨#[46]⟩).size = nm.size + 1 := by rw [ByteArray.size_append]; rfl
  unfold spoil
  simp only []
  split
  · exact key _ _ _ _ _ _ hi.1 (by omega) (by omega)
  split
  · exact key _ _ _ _ _ _ hi.1 (by omega) (by omega)
  split
  · exact key _ _ _ _ _ _ hi.1 (by omega) (by omega)
  split
  · exact key _ _ _ _ _ _ (by split <;> exact ⟨by decide, by decide⟩) (by omega) (by omega)
  split
  · split
    · exact key _ _ _ _ _ _ hi.1 (by decide) (by omega)
    · exact key _ _ _ _ _ _ hi.1 (by omega) (by omega)
  · refine key _ _ _ _ _ _ hi.1 (by omega) ?_
    rw [texts_map, List.map_append, tl_append, ← texts_map]
    have : ∀ c : Prop, [Decidable c] → tl ((if c then [E.mk (-1) 0 0 ⟨#[]⟩ false []] else [.mk 0 0 0 ⟨#[]⟩ false [], .mk 0 0 0 ⟨#[]⟩ false []]).map fun e => (level e, text e)) ≤ 200 := fun c _ => by
      split <;> decide +kernel
    have := this (k = 5)
    omega
theorem printP_len (e : E) : (progT (printP e)).length = (text e).length + 39 := by
  simp [progT, printP, classT, methodT, stmts, stmt, stmtT, simple, line, ind, commas, texts]
theorem printP_fit (e : E) : fitP (printP e) := fun c hc => by
  obtain rfl := List.mem_singleton.1 hc
  intro m hm
  obtain rfl := List.mem_singleton.1 hm
  show fitSs [.mk 6 ⟨#[]⟩ [e] [] []]
  rw [fitSs, fitS]
  refine ⟨⟨show 1 ≤ 4611686018427387904 by decide, ?_, ?_⟩, ?_⟩ <;> (rw [fitSs]; trivial)
theorem printP_deep (e : E) : ∀ c ∈ printP e, ∀ m ∈ c.methods, S.deep.deeps m.body ≤ 900000 ∧ m.params.length ≤ 1000000 := fun c hc => by
  obtain rfl := List.mem_singleton.1 hc
  intro m hm
  obtain rfl := List.mem_singleton.1 hm
  simp [S.deep.deeps, S.deep]
end Sy
end Go.Proofs.YtlgfickhkejdjaaGreatDoor
