/-
  Identities as pairs of integers: the order, sorted lists without repetitions, the set of a list. No program in sight.
-/
namespace Go.Proofs.YtlhkkniebaganaaGreatDoor
namespace Id

abbrev I := Int × Int

def lt (a b : I) : Prop := a.1 < b.1 ∨ a.1 = b.1 ∧ a.2 < b.2
instance : DecidableRel lt := fun a b => by unfold lt; infer_instance

/-- what Compare returns -/
def cmp (a b : I) : Int := if a.1 < b.1 then -1 else if b.1 < a.1 then 1 else if a.2 < b.2 then -1 else if b.2 < a.2 then 1 else 0

theorem cmp_neg (a b : I) : cmp a b < 0 ↔ lt a b := by
  unfold cmp lt
  split
  · simp; omega
  · split
    · simp; omega
    · split
      · simp; omega
      · split <;> simp <;> omega
theorem cmp_zero (a b : I) : cmp a b = 0 ↔ a = b := by
  unfold cmp
  rw [Prod.ext_iff]
  split
  · simp; omega
  · split
    · simp; omega
    · split
      · simp; omega
      · split
        · simp; omega
        · simp; omega
theorem cmp_swap (a b : I) : cmp b a = - cmp a b := by
  unfold cmp
  (repeat' split) <;> omega
theorem cmp_three (a b : I) : cmp a b = -1 ∨ cmp a b = 0 ∨ cmp a b = 1 := by
  unfold cmp
  (repeat' split) <;> omega
theorem lt_irrefl (a : I) : ¬ lt a a := by unfold lt; omega
theorem lt_trans {a b c : I} (h1 : lt a b) (h2 : lt b c) : lt a c := by unfold lt at *; omega
theorem lt_asymm {a b : I} (h1 : lt a b) : ¬ lt b a := by unfold lt at *; omega
theorem lt_total (a b : I) : lt a b ∨ a = b ∨ lt b a := by
  unfold lt
  rw [Prod.ext_iff]
  omega
theorem cmp_le_trans {a b c : I} (h1 : cmp a b ≤ 0) (h2 : cmp b c ≤ 0) : cmp a c ≤ 0 := by
  have k : ∀ x y, cmp x y ≤ 0 ↔ ¬ lt y x := by
    intro x y
    rw [← cmp_neg, cmp_swap x y]
    omega
  rw [k] at *
  unfold lt at *
  omega

abbrev Sorted (l : List I) : Prop := l.Pairwise lt

theorem sorted_ext : ∀ {l m : List I}, Sorted l → Sorted m → (∀ x, x ∈ l ↔ x ∈ m) → l = m
  | [], [], _, _, _ => rfl
  | [], b :: m, _, _, h => by have := (h b).2 (by simp); simp at this
  | a :: l, [], _, _, h => by have := (h a).1 (by simp); simp at this
  | a :: l, b :: m, hl, hm, h => by
    have h1 := List.pairwise_cons.1 hl
    have h2 := List.pairwise_cons.1 hm
    have e : a = b := by
      rcases List.mem_cons.1 ((h a).1 (by simp)) with e | h3
      · exact e
      · rcases List.mem_cons.1 ((h b).2 (by simp)) with e | h4
        · exact e.symm
        · exact absurd (h2.1 a h3) (lt_asymm (h1.1 b h4))
    subst e
    congr 1
    refine sorted_ext h1.2 h2.2 fun x => ⟨fun hx => ?_, fun hx => ?_⟩
    · rcases List.mem_cons.1 ((h x).1 (by simp [hx])) with e | h3
      · subst e; exact absurd (h1.1 x hx) (lt_irrefl x)
      · exact h3
    · rcases List.mem_cons.1 ((h x).2 (by simp [hx])) with e | h3
      · subst e; exact absurd (h2.1 x hx) (lt_irrefl x)
      · exact h3

/-- neighbours that are equal become one -/
def uniq : List I → List I
  | [] => []
  | [a] => [a]
  | a :: b :: r => if a = b then uniq (b :: r) else a :: uniq (b :: r)

theorem mem_uniq : ∀ (l : List I) (x : I), x ∈ uniq l ↔ x ∈ l
  | [], x => Iff.rfl
  | [a], x => Iff.rfl
  | a :: b :: r, x => by
    have ih := mem_uniq (b :: r) x
    unfold uniq
    split
    · rename_i h
      subst h
      rw [ih]; simp
    · rw [List.mem_cons, ih]; simp
theorem uniq_sorted : ∀ {l : List I}, l.Pairwise (fun a b => ¬ lt b a) → Sorted (uniq l)
  | [], _ => List.Pairwise.nil
  | [a], _ => List.pairwise_singleton _ _
  | a :: b :: r, h => by
    have h1 := List.pairwise_cons.1 h
    have ih := uniq_sorted h1.2
    unfold uniq
    split
    · exact ih
    · rename_i hne
      refine List.pairwise_cons.2 ⟨fun x hx => ?_, ih⟩
      rw [mem_uniq] at hx
      have h2 := List.pairwise_cons.1 h1.2
      rcases lt_total a x with h3 | h3 | h3
      · exact h3
      · exfalso
        subst h3
        rcases List.mem_cons.1 hx with e | h4
        · exact hne e
        · have h5 := h2.1 a h4
          have h6 := h1.1 b (by simp)
          rcases lt_total a b with h7 | h7 | h7
          · exact h5 h7
          · exact hne h7
          · exact h6 h7
      · exact absurd h3 (h1.1 x hx)

/-- an identity put into a sorted list -/
def put : List I → I → List I
  | [], x => [x]
  | a :: l, x => if lt a x then a :: put l x else if a = x then a :: l else x :: a :: l
theorem mem_put : ∀ (l : List I) (x y : I), y ∈ put l x ↔ y ∈ l ∨ y = x
  | [], x, y => by simp [put]
  | a :: l, x, y => by
    unfold put
    split
    · rw [List.mem_cons, mem_put l x y, List.mem_cons]; exact or_assoc.symm
    · split
      · rename_i h; subst h; simp; intro h; exact .inl h
      · simp only [List.mem_cons]; constructor
        · rintro (h | h | h)
          · exact .inr h
          · exact .inl (.inl h)
          · exact .inl (.inr h)
        · rintro ((h | h) | h)
          · exact .inr (.inl h)
          · exact .inr (.inr h)
          · exact .inl h
theorem put_sorted : ∀ {l : List I} (x : I), Sorted l → Sorted (put l x)
  | [], x, _ => List.pairwise_singleton _ _
  | a :: l, x, h => by
    have h1 := List.pairwise_cons.1 h
    unfold put
    split
    · rename_i hlt
      refine List.pairwise_cons.2 ⟨fun y hy => ?_, put_sorted x h1.2⟩
      rcases (mem_put l x y).1 hy with h2 | h2
      · exact h1.1 y h2
      · rw [h2]; exact hlt
    · split
      · exact h
      · rename_i h2 h3
        have h4 : lt x a := by
          rcases lt_total a x with h5 | h5 | h5
          · exact absurd h5 h2
          · exact absurd h5 h3
          · exact h5
        refine List.pairwise_cons.2 ⟨fun y hy => ?_, h⟩
        rcases List.mem_cons.1 hy with e | h5
        · rw [e]; exact h4
        · exact lt_trans h4 (h1.1 y h5)
theorem put_len : ∀ (l : List I) (x : I), (put l x).length ≤ l.length + 1
  | [], x => by simp [put]
  | a :: l, x => by
    unfold put
    have := put_len l x
    split
    · simp; omega
    · split <;> simp

/-- the set of a list -/
def setL (l : List I) : List I := l.foldl put []
theorem setL_snoc (l : List I) (x : I) : setL (l ++ [x]) = put (setL l) x := by unfold setL; rw [List.foldl_append]; rfl
theorem foldl_put (l : List I) : ∀ acc, Sorted acc → Sorted (l.foldl put acc) ∧ ∀ y, y ∈ l.foldl put acc ↔ y ∈ acc ∨ y ∈ l := by
  induction l with
  | nil => intro acc h; exact ⟨h, fun y => by simp⟩
  | cons a l ih =>
    intro acc h
    obtain ⟨h1, h2⟩ := ih (put acc a) (put_sorted a h)
    refine ⟨h1, fun y => ?_⟩
    rw [List.foldl_cons, h2, mem_put, List.mem_cons]
    exact or_assoc
theorem setL_sorted (l : List I) : Sorted (setL l) := (foldl_put l [] List.Pairwise.nil).1
theorem mem_setL (l : List I) (y : I) : y ∈ setL l ↔ y ∈ l := by
  have := (foldl_put l [] List.Pairwise.nil).2 y
  unfold setL
  rw [this]; simp
theorem setL_len (l : List I) : (setL l).length ≤ l.length := by
  have h : ∀ (m acc : List I), (m.foldl put acc).length ≤ acc.length + m.length := by
    intro m
    induction m with
    | nil => intro acc; simp
    | cons a m ih =>
      intro acc
      have h1 := ih (put acc a)
      have h2 := put_len acc a
      rw [List.foldl_cons, List.length_cons]
      omega
  have := h l []
  unfold setL
  simp at this
  exact this

/-- a list that is sorted with repetitions, its neighbours made one, is the set -/
theorem uniq_setL {l m : List I} (h : m.Pairwise (fun a b => ¬ lt b a)) (hm : ∀ x, x ∈ m ↔ x ∈ l) : uniq m = setL l :=
  sorted_ext (uniq_sorted h) (setL_sorted l) fun x => by rw [mem_uniq, hm, mem_setL]
theorem uniq_len : ∀ l : List I, (uniq l).length ≤ l.length
  | [] => Nat.le_refl _
  | [a] => Nat.le_refl _
  | a :: b :: r => by
    have := uniq_len (b :: r)
    unfold uniq
    split
    · simp at *; omega
    · simp at *; omega

def unionL (a b : List I) : List I := setL (a ++ b)
def hasB (l : List I) (x : I) : Bool := decide (x ∈ l)
def minusL (a b : List I) : List I := setL (a.filter fun x => !hasB b x)
theorem minus_filter (a b : List I) : (setL a).filter (fun x => !hasB b x) = minusL a b := by
  refine sorted_ext ((setL_sorted a).filter _) (setL_sorted _) fun x => ?_
  unfold minusL
  rw [List.mem_filter, mem_setL, mem_setL, List.mem_filter]
theorem mem_union (a b : List I) (x : I) : x ∈ unionL a b ↔ x ∈ a ∨ x ∈ b := by unfold unionL; rw [mem_setL]; simp
theorem mem_minus (a b : List I) (x : I) : x ∈ minusL a b ↔ x ∈ a ∧ ¬ x ∈ b := by unfold minusL hasB; rw [mem_setL, List.mem_filter]; simp
theorem union_comm (a b : List I) : unionL a b = unionL b a :=
  sorted_ext (setL_sorted _) (setL_sorted _) fun x => by rw [mem_union, mem_union]; exact or_comm
theorem union_assoc (a b c : List I) : unionL (unionL a b) c = unionL a (unionL b c) :=
  sorted_ext (setL_sorted _) (setL_sorted _) fun x => by rw [mem_union, mem_union, mem_union, mem_union]; exact or_assoc
theorem union_idem (a b : List I) : unionL (unionL a b) (unionL a b) = unionL a b :=
  sorted_ext (setL_sorted _) (setL_sorted _) fun x => by rw [mem_union, or_self]
theorem minus_union (a b : List I) : unionL (minusL a b) (minusL a (minusL a b)) = setL a :=
  sorted_ext (setL_sorted _) (setL_sorted _) fun x => by
    rw [mem_union, mem_minus, mem_minus, mem_minus, mem_setL]
    by_cases h1 : x ∈ a <;> by_cases h2 : x ∈ b <;> simp [h1, h2]
end Id
end Go.Proofs.YtlhkkniebaganaaGreatDoor
