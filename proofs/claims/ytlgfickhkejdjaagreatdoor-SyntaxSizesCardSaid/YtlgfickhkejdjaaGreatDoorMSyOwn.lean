/-
  Rows of classes and of expressions that a walk builds by append: what lies in them, and the append's law.
-/
import Derived.Test.YtlgfickhkejdjaaGreatDoorMSyLawBase
import Derived.Test.YtlgfickhkejdjaaGreatDoorMTrB
namespace Go.Proofs.YtlgfickhkejdjaaGreatDoor
open Go.RowKit Go.Maps

section
variable {α : Type} (f : α → List Value) (k : Nat)
def flatV (l : List α) : List Value := l.flatMap f
theorem flatV_append (l r : List α) : flatV f (l ++ r) = flatV f l ++ flatV f r := List.flatMap_append
theorem flatV_nil : flatV f [] = [] := rfl
theorem flatV_cons (x : α) (r : List α) : flatV f (x :: r) = f x ++ flatV f r := List.flatMap_cons
variable (hf : ∀ a, (f a).length = k)
include hf
theorem flatV_len : ∀ l : List α, (flatV f l).length = l.length * k
  | [] => by simp [flatV]
  | x :: r => by rw [flatV_cons, List.length_append, hf, flatV_len r, List.length_cons, Nat.add_mul, Nat.one_mul, Nat.add_comm]
theorem flatV_get : ∀ (l : List α) (j : Nat) (a : α) (i : Nat), i < k → l[j]? = some a → (flatV f l)[j * k + i]? = (f a)[i]?
  | [], j, a, i, _, h => by simp at h
  | x :: r, 0, a, i, hi, h => by
    simp only [List.getElem?_cons_zero, Option.some.injEq] at h
    subst h
    rw [flatV_cons, Nat.zero_mul, Nat.zero_add, List.getElem?_append_left (by rw [hf]; exact hi)]
  | x :: r, j + 1, a, i, hi, h => by
    rw [List.getElem?_cons_succ] at h
    rw [flatV_cons, List.getElem?_append_right (by rw [hf, Nat.add_mul]; omega), hf]
    have e : (j + 1) * k + i - k = j * k + i := by rw [Nat.add_mul]; omega
    rw [e]
    exact flatV_get r j a i hi h
theorem flatV_cells {w : World} {b : Nat} : ∀ (l : List α) (o : Nat), (∀ j a, l[j]? = some a → ∀ i u, (f a)[i]? = some u → w.cell? ⟨b, o + j * k + i, none⟩ = some u) → ∀ j u, (flatV f l)[j]? = some u → w.cell? ⟨b, o + j, none⟩ = some u
  | [], o, _, j, u, h => by simp [flatV] at h
  | x :: r, o, h, j, u, hj => by
    rw [flatV_cons] at hj
    by_cases hlt : j < k
    · rw [List.getElem?_append_left (by rw [hf]; exact hlt)] at hj
      have := h 0 x rfl j u hj
      rw [Nat.zero_mul, Nat.add_zero] at this
      exact this
    · rw [List.getElem?_append_right (by rw [hf]; omega), hf] at hj
      have := flatV_cells r (o + k) (fun j' a hj' i u hu => by
        have := h (j' + 1) a (by rw [List.getElem?_cons_succ]; exact hj') i u hu
        rw [Nat.add_mul, Nat.one_mul, Nat.add_comm (j' * k) k, ← Nat.add_assoc] at this
        exact this) (j - k) u hj
      have e : o + k + (j - k) = o + j := by omega
      rw [e] at this
      exact this
end

/-- an append's second argument -/
def SrcAt {α : Type} (w : World) (f : α → List Value) (v : Value) (l : List α) : Prop :=
  (l = [] ∧ ∃ p c, v = .slice p 0 c) ∨ ∃ b o c, v = .slice (some ⟨b, o, none⟩) l.length c ∧ ∀ j u, (flatV f l)[j]? = some u → w.cell? ⟨b, o + j, none⟩ = some u
theorem SrcAt.keep {α : Type} {f : α → List Value} {w w' : World} {v : Value} {l : List α} (h : SrcAt w f v l) (hb : Below w.heap.size w w') : SrcAt w' f v l := by
  rcases h with h | ⟨b, o, c, e, h⟩
  · exact .inl h
  · exact .inr ⟨b, o, c, e, fun j u hj => cell_keep' hb (h j u hj)⟩

theorem run_append_owned_empty {P : Program} {w : World} (base : Nat) (t ty e : TypeId) (i : TypeInfo) (size : Nat) (ht : P.underlying t = some (.slice e)) (hi : P.info? e = some i)
    (v : Value) (n : Nat) (xs : List Value) (hown : w.ownsRow base e size v n xs) (p : Option Addr) (c : Nat) :
    (Builtin.append_ #[t, t] ty #[v, .slice p 0 c]).run P w = .ok v w := by
  cases p with
  | none =>
    rcases hown.2 with ⟨rfl, rfl⟩ | ⟨g, cap, cur, rfl, _, _, hnc, _⟩
    · simp [Builtin.append_, run_underlying ht, sizeOf, typeInfo, hi, Builtin.lenOf, Builtin.firstCells]
    · simp [Builtin.append_, run_underlying ht, sizeOf, typeInfo, hi, Builtin.lenOf, Builtin.firstCells, hnc, storeCells]
  | some q =>
    rcases hown.2 with ⟨rfl, rfl⟩ | ⟨g, cap, cur, rfl, _, _, hnc, _⟩
    · simp [Builtin.append_, run_underlying ht, sizeOf, typeInfo, hi, Builtin.lenOf, Builtin.firstCells, loadCells, loadCellsFrom]
    · simp [Builtin.append_, run_underlying ht, sizeOf, typeInfo, hi, Builtin.lenOf, Builtin.firstCells, hnc, storeCells, loadCells, loadCellsFrom, storeCells]

/-- a source that lies in a fresh row of cells -/
theorem SrcAt.lit {α : Type} {f : α → List Value} (w : World) (x : α) (t : TypeId) (cs : Array Value) (hcs : cs.toList = f x) (c : Nat) : SrcAt (w.alloc (.cells cs t)) f (.slice (some ⟨w.heap.size, 0, none⟩) 1 c) [x] := by
  refine .inr ⟨w.heap.size, 0, c, rfl, fun j u hj => ?_⟩
  rw [flatV_cons, flatV_nil, List.append_nil, ← hcs, Array.getElem?_toList] at hj
  rw [Nat.zero_add]
  exact box_cell w cs t j u hj

/-- an append of a source to a row that the walk owns: the operation alone -/
theorem wp_append_src {P : Program} {α : Type} (f : α → List Value) (k : Nat) (hf : ∀ a, (f a).length = k)
    {w : World} {o : Oper} {a : Act} {K : Act → World → Prop} {Q : Exit → Act → World → Prop} (s x : Operand) (t : TypeId)
    (ho : o.op = .call { callee := .builtin .append, args := #[s, x], argTypes := #[t, t] })
    (base : Nat) (e : TypeId) (i : TypeInfo) (z : Value) (bytes : Nat) (ht : P.underlying t = some (.slice e)) (hi : P.info? e = some i) (hz : i.zero = some z)
    (hsize : i.size = k) (hby : i.bytes = bytes) (hzs : z.cells.size = k) (hsz : 0 < k)
    (v v2 : Value) (tr news : List α) (hs : a.eval s = v) (hx : a.eval x = v2) (hown : w.ownsRow base e k v tr.length (flatV f tr)) (hsrc : SrcAt w f v2 news) (h1 : ∀ a ∈ news, ∀ u ∈ f a, u.oneCell' = true)
    (h63 : tr.length + news.length ≤ maxLen) (hbytes : (tr.length + news.length) * bytes ≤ 140737488355328) (hbase : base ≤ w.heap.size)
    (h : ∀ v' w', w'.ownsRow base e k v' (tr ++ news).length (flatV f (tr ++ news)) → w.grownBy w' v.ownBlock → K (a.put o.dst v') w') : o.wp P a w K Q := by
  rcases hsrc with ⟨rfl, p, c, rfl⟩ | ⟨b, of, c, rfl, hc⟩
  · have hrun := run_append_owned_empty (P := P) (w := w) base t o.type e i k ht hi v _ _ hown p c
    unfold Oper.wp
    simp [execOp, ho, resolve, invoke, builtin, hs, hx, hrun, Result.andThen]
    exact h v w (by rw [List.append_nil]; exact hown) (grown_refl w _)
  · refine wp_append_own w s x t ho base e i z k bytes ht hi hz hsize hby hzs hsz v tr.length (flatV f tr) hs hown ⟨b, of, none⟩ news.length c (flatV f news) hx (flatV_len f k hf news) (fun j u hj => ?_) (fun u hu => ?_) h63 hbytes hbase fun v' w' a1 a2 _ => h v' w' ?_ a2
    · have e : (⟨b, of, none⟩ : Addr).add j = ⟨b, of + j, none⟩ := by unfold Addr.add; split <;> simp_all
      rw [e]; exact hc j u hj
    · unfold flatV at hu
      obtain ⟨x, hx1, hx⟩ := List.mem_flatMap.1 hu
      exact h1 x hx1 u hx
    · rw [List.length_append, flatV_append]; exact a1

theorem wpList_append_src {P : Program} {α : Type} (f : α → List Value) (k : Nat) (hf : ∀ a, (f a).length = k)
    {w : World} {ops : Array Oper} {rest : List Oper} {o : Oper} {a : Act} {Q : Exit → Act → World → Prop} (hgd : o.guard = none) (s x : Operand) (t : TypeId)
    (ho : o.op = .call { callee := .builtin .append, args := #[s, x], argTypes := #[t, t] })
    (base : Nat) (e : TypeId) (i : TypeInfo) (z : Value) (bytes : Nat) (ht : P.underlying t = some (.slice e)) (hi : P.info? e = some i) (hz : i.zero = some z)
    (hsize : i.size = k) (hby : i.bytes = bytes) (hzs : z.cells.size = k) (hsz : 0 < k)
    (v v2 : Value) (tr news : List α) (hs : a.eval s = v) (hx : a.eval x = v2) (hown : w.ownsRow base e k v tr.length (flatV f tr)) (hsrc : SrcAt w f v2 news) (h1 : ∀ a ∈ news, ∀ u ∈ f a, u.oneCell' = true)
    (h63 : tr.length + news.length ≤ maxLen) (hbytes : (tr.length + news.length) * bytes ≤ 140737488355328) (hbase : base ≤ w.heap.size)
    (h : ∀ v' w', w'.ownsRow base e k v' (tr ++ news).length (flatV f (tr ++ news)) → w.grownBy w' v.ownBlock → wpList P ops Q rest (a.put o.dst v') w') : wpList P ops Q (o :: rest) a w :=
  wpList_plain hgd fun _ hK => wp_append_src f k hf s x t ho base e i z bytes ht hi hz hsize hby hzs hsz v v2 tr news hs hx hown hsrc h1 h63 hbytes hbase fun v' w' h2 h3 => hK _ _ (h v' w' h2 h3)
theorem own_empty (w : World) (t : TypeId) (k : Nat) : (w.alloc (.cells #[] t)).ownsRow w.heap.size t k (.slice (some ⟨w.heap.size, 0, none⟩) 0 0) 0 [] :=
  ⟨by simp, .inr ⟨w.heap.size, 0, #[], rfl, Nat.le_refl _, (MapKept.heap_alloc w _).1, Nat.le_refl _, by unfold maxLen; omega, by simp, by simp⟩⟩
theorem own_ge {w : World} {base : Nat} {e : TypeId} {size n : Nat} {v : Value} {xs : List Value} (h : w.ownsRow base e size v n xs) {q : Nat} (hq : v.ownBlock = some q) : base ≤ q ∧ ∃ cur, w.heap[q]? = some (.cells cur e (0, 0)) := by
  rcases h.2 with ⟨rfl, _⟩ | ⟨g, cap, cur, rfl, hb, hg, _⟩
  · cases hq
  · cases hq; exact ⟨hb, cur, hg⟩
/-! ### rows of classes and of methods -/
/-- a class and where its fields and methods lie -/
abbrev CT := Tr.C × Value × Value
abbrev MT := Tr.M × Value × Value
def cCells (x : CT) : List Value := [.string x.1.name, .bool x.1.actor, x.2.1, x.2.2]
def mCells (x : MT) : List Value := [.string x.1.name, x.2.1, x.2.2]
theorem cCells_len (x : CT) : (cCells x).length = 4 := rfl
theorem mCells_len (x : MT) : (mCells x).length = 3 := rfl
theorem SlStr.one {w : World} {v : Value} {l : List ByteArray} (h : SlStr w v l) : v.oneCell' = true := by
  obtain ⟨p, c, rfl, _⟩ := h; rfl
theorem SlS.one {w : World} {v : Value} {l : List Tr.S} (h : SlS w v l) : v.oneCell' = true := by
  obtain ⟨p, c, rfl, _⟩ := h.form; rfl
theorem SlM.one {w : World} {v : Value} {l : List Tr.M} (h : SlM w v l) : v.oneCell' = true := by
  obtain ⟨p, c, rfl, _⟩ := h; rfl
theorem cCells_one {w : World} {l : List CT} (h : ∀ x ∈ l, ReadC w x.1 x.2.1 x.2.2) : ∀ a ∈ l, ∀ u ∈ cCells a, u.oneCell' = true := by
  intro a ha u hu
  obtain ⟨_, h1, h2⟩ := h a ha
  simp only [cCells, List.mem_cons, List.not_mem_nil, or_false] at hu
  rcases hu with rfl | rfl | rfl | rfl
  · rfl
  · rfl
  · exact h1.one
  · exact h2.one
theorem mCells_one {w : World} {l : List MT} (h : ∀ x ∈ l, ReadM w x.1 x.2.1 x.2.2) : ∀ a ∈ l, ∀ u ∈ mCells a, u.oneCell' = true := by
  intro a ha u hu
  obtain ⟨_, h1, h2⟩ := h a ha
  simp only [mCells, List.mem_cons, List.not_mem_nil, or_false] at hu
  rcases hu with rfl | rfl | rfl
  · rfl
  · exact h1.one
  · exact h2.one
theorem own_cells {α : Type} {f : α → List Value} {k : Nat} (hf : ∀ a, (f a).length = k) {w : World} {base : Nat} {t : TypeId} {v : Value} {l : List α} (h : w.ownsRow base t k v l.length (flatV f l)) :
    (l = [] ∧ v = .slice none 0 0) ∨ ∃ g cap, v = .slice (some ⟨g, 0, none⟩) l.length cap ∧ g < w.heap.size ∧ l.length ≤ cap ∧ cap ≤ maxLen ∧ ∀ j a, l[j]? = some a → ∀ i u, (f a)[i]? = some u → w.cell? ⟨g, j * k + i, none⟩ = some u := by
  rcases h.2 with ⟨rfl, h0⟩ | ⟨g, cap, cur, rfl, _, hg, hnc, hcm, hcs, htk⟩
  · exact .inl ⟨List.eq_nil_of_length_eq_zero h0, rfl⟩
  · refine .inr ⟨g, cap, rfl, lt_of_block hg, hnc, hcm, fun j a hj i u hu => ?_⟩
    have hi : i < k := by have := (List.getElem?_eq_some_iff.1 hu).1; rw [hf] at this; exact this
    have h2 := flatV_get f k hf l j a i hi hj
    rw [hu] at h2
    have hlt := (List.getElem?_eq_some_iff.1 h2).1
    rw [flatV_len f k hf] at hlt
    rw [← htk, List.getElem?_take_of_lt hlt] at h2
    exact cell_of_blkP hg (by rw [← Array.getElem?_toList]; exact h2)
theorem slC_own {w : World} {base : Nat} {v : Value} {l : List CT} (h : w.ownsRow base 52 4 v l.length (flatV cCells l)) (hx : ∀ x ∈ l, ReadC w x.1 x.2.1 x.2.2) : SlC w v (l.map Prod.fst) := by
  rcases own_cells cCells_len h with ⟨rfl, rfl⟩ | ⟨g, cap, rfl, hg, hn, hm, hc⟩
  · exact ⟨_, _, rfl, Nat.zero_le _, fun h => absurd rfl h, fun j n hj => by simp at hj⟩
  · refine ⟨some ⟨g, 0, none⟩, cap, by rw [List.length_map], by rw [List.length_map]; omega, fun _ => by rw [List.length_map]; exact ⟨hn, hm⟩, fun j m hj => ?_⟩
    rw [List.getElem?_map, Option.map_eq_some_iff] at hj
    obtain ⟨a, ha, rfl⟩ := hj
    obtain ⟨h1, h2, h3⟩ := hx a (List.mem_of_getElem? ha)
    have c := hc j a ha
    exact ⟨h1, g, 0, a.2.1, a.2.2, rfl, hg, by rw [Nat.zero_add]; exact ⟨c 0 _ rfl, c 1 _ rfl, c 2 _ rfl, c 3 _ rfl⟩, h2, h3⟩
theorem slM_own {w : World} {base : Nat} {v : Value} {l : List MT} (h : w.ownsRow base 49 3 v l.length (flatV mCells l)) (hx : ∀ x ∈ l, ReadM w x.1 x.2.1 x.2.2) : SlM w v (l.map Prod.fst) := by
  rcases own_cells mCells_len h with ⟨rfl, rfl⟩ | ⟨g, cap, rfl, hg, hn, hm, hc⟩
  · exact ⟨_, _, rfl, Nat.zero_le _, fun h => absurd rfl h, fun j n hj => by simp at hj⟩
  · refine ⟨some ⟨g, 0, none⟩, cap, by rw [List.length_map], by rw [List.length_map]; omega, fun _ => by rw [List.length_map]; exact ⟨hn, hm⟩, fun j m hj => ?_⟩
    rw [List.getElem?_map, Option.map_eq_some_iff] at hj
    obtain ⟨a, ha, rfl⟩ := hj
    obtain ⟨h1, h2, h3⟩ := hx a (List.mem_of_getElem? ha)
    have c := hc j a ha
    exact ⟨h1, g, 0, a.2.1, a.2.2, rfl, hg, by rw [Nat.zero_add]; exact ⟨c 0 _ rfl, c 1 _ rfl, c 2 _ rfl⟩, h2, h3⟩
/-- a list that is read, as rows with where their parts lie -/
theorem SlC.rows {w : World} {v : Value} {cs : List Tr.C} (h : SlC w v cs) : ∃ l : List CT, l.map Prod.fst = cs ∧ (∀ x ∈ l, ReadC w x.1 x.2.1 x.2.2) ∧ SrcAt w cCells v l := by
  obtain ⟨p, c, rfl, hl, hn, hx⟩ := h
  by_cases h0 : cs = []
  · subst h0
    exact ⟨[], rfl, fun x hx => absurd hx (by simp), .inl ⟨rfl, p, c, rfl⟩⟩
  · obtain ⟨b, o, rfl⟩ : ∃ b o, p = some ⟨b, o, none⟩ := by
      cases cs with
      | nil => exact absurd rfl h0
      | cons a r => obtain ⟨_, b, o, _, _, e, _⟩ := hx 0 a rfl; exact ⟨b, o, e⟩
    have key : ∀ j, ∃ a : Value × Value, ∀ m, cs[j]? = some m → ReadC w m a.1 a.2 ∧ CellsC w b (o + j * 4) m a.1 a.2 := by
      intro j
      cases hj : cs[j]? with
      | none => exact ⟨(.bool false, .bool false), fun m hm => by cases hm⟩
      | some m =>
        obtain ⟨hnm, b', o', x, y, e, _, hc, h1, h2⟩ := hx j m hj
        cases e
        exact ⟨(x, y), fun m' hm => by cases hm; exact ⟨⟨hnm, h1, h2⟩, hc⟩⟩
    let A : Nat → Value × Value := fun j => Classical.choose (key j)
    have hA : ∀ j m, cs[j]? = some m → ReadC w m (A j).1 (A j).2 ∧ CellsC w b (o + j * 4) m (A j).1 (A j).2 := fun j => Classical.choose_spec (key j)
    have hget : ∀ (j : Nat) (x : CT), (cs.mapIdx fun j m => ((m, A j) : CT))[j]? = some x → cs[j]? = some x.1 ∧ x.2 = A j := by
      intro j x hj
      rw [List.getElem?_mapIdx, Option.map_eq_some_iff] at hj
      obtain ⟨m, hm, rfl⟩ := hj
      exact ⟨hm, rfl⟩
    refine ⟨cs.mapIdx fun j m => (m, A j), ?_, fun x hxm => ?_, .inr ⟨b, o, c, by rw [List.length_mapIdx], fun j u hj => ?_⟩⟩
    · apply List.ext_getElem?
      intro j
      rw [List.getElem?_map, List.getElem?_mapIdx, Option.map_map]
      cases cs[j]? <;> rfl
    · obtain ⟨j, hj, rfl⟩ := List.getElem_of_mem hxm
      obtain ⟨e1, e2⟩ := hget j _ (List.getElem?_eq_getElem hj)
      have := (hA j _ e1).1
      rw [← e2] at this
      exact this
    · refine flatV_cells cCells 4 cCells_len _ o (fun j a ha i u hu => ?_) j u hj
      obtain ⟨e1, e2⟩ := hget j a ha
      have h4 := (hA j _ e1).2
      rw [← e2] at h4
      match i, hu with
      | 0, hu => cases hu; exact h4.1
      | 1, hu => cases hu; exact h4.2.1
      | 2, hu => cases hu; exact h4.2.2.1
      | 3, hu => cases hu; exact h4.2.2.2
theorem SlM.rows {w : World} {v : Value} {cs : List Tr.M} (h : SlM w v cs) : ∃ l : List MT, l.map Prod.fst = cs ∧ (∀ x ∈ l, ReadM w x.1 x.2.1 x.2.2) ∧ SrcAt w mCells v l := by
  obtain ⟨p, c, rfl, hl, hn, hx⟩ := h
  by_cases h0 : cs = []
  · subst h0
    exact ⟨[], rfl, fun x hx => absurd hx (by simp), .inl ⟨rfl, p, c, rfl⟩⟩
  · obtain ⟨b, o, rfl⟩ : ∃ b o, p = some ⟨b, o, none⟩ := by
      cases cs with
      | nil => exact absurd rfl h0
      | cons a r => obtain ⟨_, b, o, _, _, e, _⟩ := hx 0 a rfl; exact ⟨b, o, e⟩
    have key : ∀ j, ∃ a : Value × Value, ∀ m, cs[j]? = some m → ReadM w m a.1 a.2 ∧ CellsM w b (o + j * 3) m a.1 a.2 := by
      intro j
      cases hj : cs[j]? with
      | none => exact ⟨(.bool false, .bool false), fun m hm => by cases hm⟩
      | some m =>
        obtain ⟨hnm, b', o', x, y, e, _, hc, h1, h2⟩ := hx j m hj
        cases e
        exact ⟨(x, y), fun m' hm => by cases hm; exact ⟨⟨hnm, h1, h2⟩, hc⟩⟩
    let A : Nat → Value × Value := fun j => Classical.choose (key j)
    have hA : ∀ j m, cs[j]? = some m → ReadM w m (A j).1 (A j).2 ∧ CellsM w b (o + j * 3) m (A j).1 (A j).2 := fun j => Classical.choose_spec (key j)
    have hget : ∀ (j : Nat) (x : MT), (cs.mapIdx fun j m => ((m, A j) : MT))[j]? = some x → cs[j]? = some x.1 ∧ x.2 = A j := by
      intro j x hj
      rw [List.getElem?_mapIdx, Option.map_eq_some_iff] at hj
      obtain ⟨m, hm, rfl⟩ := hj
      exact ⟨hm, rfl⟩
    refine ⟨cs.mapIdx fun j m => (m, A j), ?_, fun x hxm => ?_, .inr ⟨b, o, c, by rw [List.length_mapIdx], fun j u hj => ?_⟩⟩
    · apply List.ext_getElem?
      intro j
      rw [List.getElem?_map, List.getElem?_mapIdx, Option.map_map]
      cases cs[j]? <;> rfl
    · obtain ⟨j, hj, rfl⟩ := List.getElem_of_mem hxm
      obtain ⟨e1, e2⟩ := hget j _ (List.getElem?_eq_getElem hj)
      have := (hA j _ e1).1
      rw [← e2] at this
      exact this
    · refine flatV_cells mCells 3 mCells_len _ o (fun j a ha i u hu => ?_) j u hj
      obtain ⟨e1, e2⟩ := hget j a ha
      have h4 := (hA j _ e1).2
      rw [← e2] at h4
      match i, hu with
      | 0, hu => cases hu; exact h4.1
      | 1, hu => cases hu; exact h4.2.1
      | 2, hu => cases hu; exact h4.2.2

/-! ### rows of expressions -/
abbrev ET := Tr.E × Value
theorem eCells_len (x : ET) : (eCells x).length = 6 := rfl
def ReadET (w : World) (x : ET) : Prop := BdE x.1 ∧ SlE w x.2 x.1.args
theorem SlE.one {w : World} {v : Value} {l : List Tr.E} (h : SlE w v l) : v.oneCell' = true := by cases h <;> rfl
theorem eCells_one {w : World} {l : List ET} (h : ∀ x ∈ l, ReadET w x) : ∀ a ∈ l, ∀ u ∈ eCells a, u.oneCell' = true := by
  intro a ha u hu
  obtain ⟨_, h1⟩ := h a ha
  simp only [eCells, List.mem_cons, List.not_mem_nil, or_false] at hu
  rcases hu with rfl | rfl | rfl | rfl | rfl | rfl
  · rfl
  · rfl
  · rfl
  · rfl
  · rfl
  · exact h1.one
theorem slE_own {w : World} {base : Nat} {v : Value} {l : List ET} (h : w.ownsRow base 24 6 v l.length (flatV eCells l)) (hx : ∀ x ∈ l, ReadET w x) : SlE w v (l.map Prod.fst) := by
  rcases own_cells eCells_len h with ⟨rfl, rfl⟩ | ⟨g, cap, rfl, hg, hn, hm, hc⟩
  · exact .nil _ _
  · have hlen : (l.map Prod.fst).length = l.length := List.length_map ..
    have e : (Value.slice (some ⟨g, 0, none⟩) l.length cap) = .slice (some ⟨g, 0, none⟩) (l.map Prod.fst).length cap := by rw [hlen]
    rw [e]
    refine .row g 0 cap _ (fun j => (l[j]?.map Prod.snd).getD (.bool false)) (by rw [hlen]; exact hn) hm (fun j m hj => ?_) (fun j m hj => ?_)
    · rw [List.getElem?_map, Option.map_eq_some_iff] at hj
      obtain ⟨a, ha, rfl⟩ := hj
      have c := hc j a ha
      rw [ha, Nat.zero_add]
      exact ⟨⟨c 0 _ rfl, c 1 _ rfl, c 2 _ rfl, c 3 _ rfl, c 4 _ rfl, c 5 _ rfl⟩, (hx a (List.mem_of_getElem? ha)).1⟩
    · rw [List.getElem?_map, Option.map_eq_some_iff] at hj
      obtain ⟨a, ha, rfl⟩ := hj
      rw [ha]
      exact (hx a (List.mem_of_getElem? ha)).2
theorem SlE.rows {w : World} {v : Value} {es : List Tr.E} (h : SlE w v es) : ∃ l : List ET, l.map Prod.fst = es ∧ (∀ x ∈ l, ReadET w x) ∧ SrcAt w eCells v l := by
  cases h with
  | nil p c => exact ⟨[], rfl, fun x hx => absurd hx (by simp), .inl ⟨rfl, p, c, rfl⟩⟩
  | row b o c l A hn hm hc ha =>
    have hget : ∀ (j : Nat) (x : ET), (es.mapIdx fun j m => ((m, A j) : ET))[j]? = some x → es[j]? = some x.1 ∧ x.2 = A j := by
      intro j x hj
      rw [List.getElem?_mapIdx, Option.map_eq_some_iff] at hj
      obtain ⟨m, hm, rfl⟩ := hj
      exact ⟨hm, rfl⟩
    refine ⟨es.mapIdx fun j m => (m, A j), ?_, fun x hxm => ?_, .inr ⟨b, o, c, by rw [List.length_mapIdx], fun j u hj => ?_⟩⟩
    · apply List.ext_getElem?
      intro j
      rw [List.getElem?_map, List.getElem?_mapIdx, Option.map_map]
      cases es[j]? <;> rfl
    · obtain ⟨j, hj, rfl⟩ := List.getElem_of_mem hxm
      obtain ⟨e1, e2⟩ := hget j _ (List.getElem?_eq_getElem hj)
      refine ⟨(hc j _ e1).2, ?_⟩
      rw [e2]
      exact ha j _ e1
    · refine flatV_cells eCells 6 eCells_len (es.mapIdx fun j m => ((m, A j) : ET)) o (fun j' a hj' i u hu => ?_) j u hj
      obtain ⟨e1, e2⟩ := hget j' a hj'
      obtain ⟨⟨x0, x1, x2, x3, x4, x5⟩, _⟩ := hc j' _ e1
      rw [← e2] at x5
      simp only [eCells] at hu
      match i, hu with
      | 0, hu => cases hu; exact x0
      | 1, hu => cases hu; exact x1
      | 2, hu => cases hu; exact x2
      | 3, hu => cases hu; exact x3
      | 4, hu => cases hu; exact x4
      | 5, hu => cases hu; exact x5
      | i + 6, hu => simp at hu
theorem info_parts {i : Option TypeInfo} {z : Value} {s b : Nat} (h : i.map (fun i => (i.zero, i.size, i.bytes)) = some (some z, s, b)) : ∃ i0, i = some i0 ∧ i0.zero = some z ∧ i0.size = s ∧ i0.bytes = b := by
  cases i with
  | none => cases h
  | some i0 =>
    simp only [Option.map_some, Option.some.injEq, Prod.mk.injEq] at h
    exact ⟨i0, rfl, h.1, h.2.1, h.2.2⟩
theorem classInfo : (Tryz.prog.info? 52).map (fun i => (i.zero, i.size, i.bytes)) = some (some (.agg #[.string ⟨#[]⟩, .bool false, .slice none 0 0, .slice none 0 0]), 4, 72) := by kernel_rfl
theorem exprInfo : (Tryz.prog.info? 24).map (fun i => (i.zero, i.size, i.bytes)) = some (some (.agg #[.int .i64 0, .int .i64 0, .int .i64 0, .string ⟨#[]⟩, .bool false, .slice none 0 0]), 6, 72) := by kernel_rfl
theorem own_form {w : World} {b : Nat} {e : TypeId} {size n : Nat} {v : Value} {xs : List Value} (h : w.ownsRow b e size v n xs) : ∃ p cap, v = .slice p n cap := by
  rcases h.2 with ⟨rfl, rfl⟩ | ⟨g, cap, cur, rfl, _⟩
  · exact ⟨_, _, rfl⟩
  · exact ⟨_, _, rfl⟩
end Go.Proofs.YtlgfickhkejdjaaGreatDoor
