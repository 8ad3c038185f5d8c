/-
  Renaming keeps a program small; setting an element by cutting and joining. No program in sight.
-/
import Derived.Test.YtdafdbjdnebnfaaGreatDoorCkRename
import Derived.Test.YtdafdbjdnebnfaaGreatDoorCkRen
import Derived.Test.YtdafdbjdnebnfaaGreatDoorCkRenS
import Derived.Test.YtdafdbjdnebnfaaGreatDoorTrA
import Derived.Test.YtdafdbjdnebnfaaGreatDoorCkA
namespace Go.Proofs.YtdafdbjdnebnfaaGreatDoor
namespace Ck
open Tr
mutual
theorem fitS_ren (f t : Str) : ∀ s, fitS s → fitS (renS f t s)
  | .mk k nm x b l, h => by
    unfold fitS at h
    rw [renS]
    unfold fitS
    rw [renEs_len]
    exact ⟨h.1, fitSs_ren f t b h.2.1, fitSs_ren f t l h.2.2⟩
theorem fitSs_ren (f t : Str) : ∀ l, fitSs l → fitSs (renSs f t l)
  | [], _ => by rw [renSs]; unfold fitSs; trivial
  | s :: r, h => by
    unfold fitSs at h
    rw [renSs]
    unfold fitSs
    exact ⟨fitS_ren f t s h.1, fitSs_ren f t r h.2⟩
end
theorem mem_set {α : Type} {l : List α} {i : Nat} {x y : α} (h : x ∈ l.set i y) : x ∈ l ∨ x = y := List.mem_or_eq_of_mem_set h
theorem fit_ren {cs : List C} {f t : Str} {at_ k : Nat} {c : C} {m : M} (hc : cs[at_]? = some c) (hk : c.methods[k]? = some m) (h : fitP cs) : fitP (cs.set at_ (renC f t k m c)) := by
  intro x hx
  have h1 := h c (List.mem_of_getElem? hc)
  rcases mem_set hx with hx | rfl
  · exact h x hx
  · intro y hy
    rcases mem_set hy with hy | rfl
    · exact h1 y hy
    · exact fitSs_ren f t m.body (h1 m (List.mem_of_getElem? hk))
theorem cnt_set : ∀ {cs : List C} {i : Nat} {c c' : C}, cs[i]? = some c → c'.methods.length = c.methods.length → cnt (cs.set i c') = cnt cs
  | [], i, c, c', h, _ => by simp at h
  | x :: r, 0, c, c', h, e => by cases h; rw [List.set_cons_zero, cnt, cnt, e]
  | x :: r, i + 1, c, c', h, e => by rw [List.set_cons_succ, cnt, cnt, cnt_set (cs := r) (i := i) (by simpa using h) e]
theorem small_ren {cs : List C} {f t : Str} {at_ k : Nat} {c : C} {m : M} (hc : cs[at_]? = some c) (hk : c.methods[k]? = some m) (h : Small cs) : Small (cs.set at_ (renC f t k m c)) := by
  have h1 := h.all c (List.mem_of_getElem? hc)
  have h2 := h1.all m (List.mem_of_getElem? hk)
  refine ⟨fun x hx => ?_, ?_⟩
  · rcases mem_set hx with hx | rfl
    · exact h.all x hx
    · refine ⟨h1.name, h1.fields, ?_, fun y hy => ?_⟩
      · show (c.methods.set k (renM f t m)).length ≤ _
        rw [List.length_set]; exact h1.mths
      · rcases mem_set hy with hy | rfl
        · exact h1.all y hy
        · refine ⟨h2.name, ?_, ?_⟩
          · show (m.params.map (ren f t)).length ≤ _
            rw [List.length_map]; exact h2.params
          · show (m.params.map (ren f t)).length + lets (renSs f t m.body) ≤ _
            rw [List.length_map, lets_ren]; exact h2.lets
  · rw [cnt_set hc (by show (c.methods.set k _).length = _; rw [List.length_set])]
    exact h.cnt
end Ck
theorem set_parts {α : Type} {l : List α} {i : Nat} (h : i < l.length) (y : α) : l.set i y = (l.take i ++ [y]) ++ l.drop (i + 1) := by
  rw [List.set_eq_take_append_cons_drop, if_pos h]; simp
theorem map_set_fst {α β : Type} {l : List (α × β)} {i : Nat} (h : i < l.length) (y : α × β) : ((l.take i ++ [y]) ++ l.drop (i + 1)).map Prod.fst = (l.map Prod.fst).set i y.1 := by
  rw [← set_parts h, List.map_set]
/-- a source cut -/
theorem SrcAt.take {α : Type} {f : α → List Value} {w : World} {b o c n : Nat} {l : List α} (h : ∀ j u, (flatV f l)[j]? = some u → w.cell? ⟨b, o + j, none⟩ = some u) (i : Nat) (hi : i ≤ l.length) (hn : n = i) : SrcAt w f (.slice (some ⟨b, o, none⟩) n c) (l.take i) := by
  refine .inr ⟨b, o, c, by rw [List.length_take, Nat.min_eq_left hi, hn], fun j u hj => h j u ?_⟩
  have e : flatV f l = flatV f (l.take i) ++ flatV f (l.drop i) := by rw [← flatV_append, List.take_append_drop]
  rw [e]
  exact List.getElem?_append_left (List.getElem?_eq_some_iff.1 hj).1 ▸ hj
theorem SrcAt.drop {α : Type} {f : α → List Value} {k : Nat} (hf : ∀ a, (f a).length = k) {w : World} {b o c n o' : Nat} {l : List α} (h : ∀ j u, (flatV f l)[j]? = some u → w.cell? ⟨b, o + j, none⟩ = some u) (i : Nat) (hi : i ≤ l.length) (hn : n = l.length - i) (ho : o' = o + i * k) : SrcAt w f (.slice (some ⟨b, o', none⟩) n c) (l.drop i) := by
  subst ho
  refine .inr ⟨b, o + i * k, c, by rw [List.length_drop, hn], fun j u hj => ?_⟩
  have e : flatV f l = flatV f (l.take i) ++ flatV f (l.drop i) := by rw [← flatV_append, List.take_append_drop]
  have hlen : (flatV f (l.take i)).length = i * k := by rw [flatV_len f k hf, List.length_take, Nat.min_eq_left hi]
  have := h (i * k + j) u (by rw [e, List.getElem?_append_right (by rw [hlen]; omega), hlen, Nat.add_sub_cancel_left]; exact hj)
  rw [← Nat.add_assoc] at this
  exact this
end Go.Proofs.YtdafdbjdnebnfaaGreatDoor
