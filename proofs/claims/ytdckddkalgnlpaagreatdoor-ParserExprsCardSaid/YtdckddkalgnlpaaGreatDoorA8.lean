/-
  Several texts in one: TrOwn, PaBase.
-/
import Derived.Test.YtdckddkalgnlpaaGreatDoorA7
import Derived.Laws.Rows
import Derived.WalkKit
import Derived.OneCell
import Derived.Lib.Hide
import Derived.Test.YtdckddkalgnlpaaGreatDoorA5
namespace Go.Proofs.YtdckddkalgnlpaaGreatDoor
namespace Pw
open Go.RowKit Go.Maps
theorem cell_of_blkP {w : World} {g : Nat} {cur : Array Value} {t : TypeId} {r : Nat × Nat} (h : w.heap[g]? = some (.cells cur t r)) {j : Nat} {u : Value} (hu : cur[j]? = some u) : w.cell? ⟨g, j, none⟩ = some u := by simp [World.cell?, h, hu]
theorem new_at {w : World} {o : Obj} {n : Nat} (h : w.heap.size = n) : (w.alloc o).heap[n]? = some o := by subst h; exact (MapKept.heap_alloc w o).1
theorem heap_set {w : World} {P j : Nat} {cs : Array Value} {t : TypeId} {r : Nat × Nat} (u : Value) (h : w.heap[P]? = some (.cells cs t r)) : (w.setCell ⟨P, j, none⟩ u).heap[P]? = some (.cells (cs.setIfInBounds j u) t r) := by
 have hlt := lt_of_block h
 have h' : w.heap[P] = .cells cs t r := by simpa [Array.getElem?_eq_getElem hlt] using h
 show (w.heap.modify P _)[P]? = _
 rw [Array.getElem?_eq_getElem (by simpa using hlt), Array.getElem_modify_self, h']
 rfl
theorem blk_free {w : World} {b : Nat} {cs : Array Value} {t : TypeId} (h : w.heap[b]? = some (.cells cs t (0, 0))) (i : Nat) : w.frozen? ⟨b, i, none⟩ = false := by simp [World.frozen?, h]
theorem grown_refl (w : World) (r : Option Nat) : w.grownBy w r := ⟨rfl, rfl, rfl, Nat.le_refl _, fun _ _ _ => rfl⟩
def ReadC (W : World) (x : Tr.C) (a1 a2 : Value) : Prop := x.name.size ≤ maxLen ∧ SlStr W a1 x.fields ∧ SlM W a2 x.methods
def ReadM (W : World) (x : Tr.M) (a1 a2 : Value) : Prop := x.name.size ≤ maxLen ∧ SlStr W a1 x.params ∧ SlS W a2 x.body
def eCells (x : Tr.E × Value) : List Value := [.int .i64 x.1.kind, .int .i64 x.1.op, .int .i64 x.1.int, .string x.1.name, .bool x.1.at_, x.2]
theorem flat6 : ∀ (l : List (Tr.E × Value)) (j q : Nat) (x : Tr.E × Value), l[j]? = some x → q < 6 → (l.flatMap eCells)[j * 6 + q]? = (eCells x)[q]?
 | [], j, q, x, h, _ => by simp at h
 | y :: r, 0, q, x, h, hq => by
   cases h
   rw [List.flatMap_cons, Nat.zero_mul, Nat.zero_add, List.getElem?_append_left (by exact hq)]
 | y :: r, j + 1, q, x, h, hq => by
   have h2 := flat6 r j q x (by simpa using h) hq
   have h6 : (eCells y).length = 6 := rfl
   rw [List.flatMap_cons, List.getElem?_append_right (by rw [h6]; omega), h6, show (j + 1) * 6 + q - 6 = j * 6 + q by omega]
   exact h2
theorem slE_blk {w : World} {g : Nat} {cs : Array Value} {t : TypeId} (h : w.heap[g]? = some (.cells cs t (0, 0))) (l : List (Tr.E × Value)) (hl : l.length ≤ 1000) (hc : cs.toList = l.flatMap eCells) (hr : ∀ x ∈ l, BdE x.1 ∧ SlE w x.2 x.1.args) :
 SlE w (.slice (some ⟨g, 0, none⟩) l.length l.length) (l.map Prod.fst) := by
 have hlen : (l.map Prod.fst).length = l.length := List.length_map _
 have hget : ∀ j e, (l.map Prod.fst)[j]? = some e → ∃ x : Tr.E × Value, l[j]? = some x ∧ x.1 = e := fun j e hj => by
  rw [List.getElem?_map, Option.map_eq_some_iff] at hj
  exact hj
 have key := SlE.row (w := w) g 0 l.length (l.map Prod.fst) (fun j => (l[j]?.map Prod.snd).getD (.bool false)) (by rw [hlen]; exact Nat.le_refl _) (by unfold maxLen; omega) (fun j e hj => ?_) (fun j e hj => ?_)
 ·rw [hlen] at key; exact key
 ·obtain ⟨x, hx, rfl⟩ := hget j e hj
  have hat : ∀ q u, (eCells x)[q]? = some u → q < 6 → w.cell? ⟨g, j * 6 + q, none⟩ = some u := fun q u hu hq => cell_of_blkP h (by rw [← Array.getElem?_toList, hc, flat6 l j q x hx hq, hu])
  simp only [Nat.zero_add]
  have hv : ((l[j]?.map Prod.snd).getD (.bool false)) = x.2 := by rw [hx]; rfl
  rw [hv]
  exact ⟨⟨hat 0 _ rfl (by omega), hat 1 _ rfl (by omega), hat 2 _ rfl (by omega), hat 3 _ rfl (by omega), hat 4 _ rfl (by omega), hat 5 _ rfl (by omega)⟩, (hr x (List.mem_of_getElem? hx)).1⟩
 ·obtain ⟨x, hx, rfl⟩ := hget j e hj
  have hv : ((l[j]?.map Prod.snd).getD (.bool false)) = x.2 := by rw [hx]; rfl
  rw [hv]
  exact (hr x (List.mem_of_getElem? hx)).2
section
variable {α : Type} (f : α → List Value) (k : Nat)
def flatV (l : List α) : List Value := l.flatMap f
theorem flatV_append (l r : List α) : flatV f (l ++ r) = flatV f l ++ flatV f r := List.flatMap_append
theorem flatV_nil : flatV f [] = [] := rfl
theorem flatV_cons (x : α) (r : List α) : flatV f (x :: r) = f x ++ flatV f r := List.flatMap_cons
variable (hf : ∀ a, (f a).length = k)
include hf
theorem flatV_len : ∀ l : List α, (flatV f l).length = l.length * k
 | [] => by simp [flatV]
 | x :: r => by rw [flatV_cons, List.length_append, hf, flatV_len r, List.length_cons, Nat.add_mul, Nat.one_mul, Nat.add_comm]
theorem flatV_get : ∀ (l : List α) (j : Nat) (a : α) (i : Nat), i < k → l[j]? = some a → (flatV f l)[j * k + i]? = (f a)[i]?
 | [], j, a, i, _, h => by simp at h
 | x :: r, 0, a, i, hi, h => by
   simp only [List.getElem?_cons_zero, Option.some.injEq] at h
   subst h
   rw [flatV_cons, Nat.zero_mul, Nat.zero_add, List.getElem?_append_left (by rw [hf]; exact hi)]
 | x :: r, j + 1, a, i, hi, h => by
   rw [List.getElem?_cons_succ] at h
   rw [flatV_cons, List.getElem?_append_right (by rw [hf, Nat.add_mul]; omega), hf]
   have e : (j + 1) * k + i - k = j * k + i := by rw [Nat.add_mul]; omega
   rw [e]
   exact flatV_get r j a i hi h
theorem flatV_cells {w : World} {b : Nat} : ∀ (l : List α) (o : Nat), (∀ j a, l[j]? = some a → ∀ i u, (f a)[i]? = some u → w.cell? ⟨b, o + j * k + i, none⟩ = some u) → ∀ j u, (flatV f l)[j]? = some u → w.cell? ⟨b, o + j, none⟩ = some u
 | [], o, _, j, u, h => by simp [flatV] at h
 | x :: r, o, h, j, u, hj => by
   rw [flatV_cons] at hj
   by_cases hlt : j < k
   ·rw [List.getElem?_append_left (by rw [hf]; exact hlt)] at hj
    have := h 0 x rfl j u hj
    rw [Nat.zero_mul, Nat.add_zero] at this
    exact this
   ·rw [List.getElem?_append_right (by rw [hf]; omega), hf] at hj
    have := flatV_cells r (o + k) (fun j' a hj' i u hu => by
     have := h (j' + 1) a (by rw [List.getElem?_cons_succ]; exact hj') i u hu
     rw [Nat.add_mul, Nat.one_mul, Nat.add_comm (j' * k) k, ← Nat.add_assoc] at this
     exact this) (j - k) u hj
    have e : o + k + (j - k) = o + j := by omega
    rw [e] at this
    exact this
end
def SrcAt {α : Type} (w : World) (f : α → List Value) (v : Value) (l : List α) : Prop :=
 (l = [] ∧ ∃ p c, v = .slice p 0 c) ∨ ∃ b o c, v = .slice (some ⟨b, o, none⟩) l.length c ∧ ∀ j u, (flatV f l)[j]? = some u → w.cell? ⟨b, o + j, none⟩ = some u
theorem SrcAt.keep {α : Type} {f : α → List Value} {w w' : World} {v : Value} {l : List α} (h : SrcAt w f v l) (hb : Below w.heap.size w w') : SrcAt w' f v l := by
 rcases h with h | ⟨b, o, c, e, h⟩
 ·exact .inl h
 ·exact .inr ⟨b, o, c, e, fun j u hj => cell_keep' hb (h j u hj)⟩
theorem run_append_owned_empty {P : Program} {w : World} (base : Nat) (t ty e : TypeId) (i : TypeInfo) (size : Nat) (ht : P.underlying t = some (.slice e)) (hi : P.info? e = some i)
 (v : Value) (n : Nat) (xs : List Value) (hown : w.ownsRow base e size v n xs) (p : Option Addr) (c : Nat) :
 (Builtin.append_ #[t, t] ty #[v, .slice p 0 c]).run P w = .ok v w := by
 cases p with
 | none =>
   rcases hown.2 with ⟨rfl, rfl⟩ | ⟨g, cap, cur, rfl, _, _, hnc, _⟩
   ·simp [Builtin.append_, run_underlying ht, sizeOf, typeInfo, hi, Builtin.lenOf, Builtin.firstCells]
   ·simp [Builtin.append_, run_underlying ht, sizeOf, typeInfo, hi, Builtin.lenOf, Builtin.firstCells, hnc, storeCells]
 | some q =>
   rcases hown.2 with ⟨rfl, rfl⟩ | ⟨g, cap, cur, rfl, _, _, hnc, _⟩
   ·simp [Builtin.append_, run_underlying ht, sizeOf, typeInfo, hi, Builtin.lenOf, Builtin.firstCells, loadCells, loadCellsFrom]
   ·simp [Builtin.append_, run_underlying ht, sizeOf, typeInfo, hi, Builtin.lenOf, Builtin.firstCells, hnc, storeCells, loadCells, loadCellsFrom, storeCells]
theorem wp_append_src {P : Program} {α : Type} (f : α → List Value) (k : Nat) (hf : ∀ a, (f a).length = k)
 {w : World} {o : Oper} {a : Act} {K : Act → World → Prop} {Q : Exit → Act → World → Prop} (s x : Operand) (t : TypeId)
 (ho : o.op = .call { callee := .builtin .append, args := #[s, x], argTypes := #[t, t] })
 (base : Nat) (e : TypeId) (i : TypeInfo) (z : Value) (bytes : Nat) (ht : P.underlying t = some (.slice e)) (hi : P.info? e = some i) (hz : i.zero = some z)
 (hsize : i.size = k) (hby : i.bytes = bytes) (hzs : z.cells.size = k) (hsz : 0 < k)
 (v v2 : Value) (tr news : List α) (hs : a.eval s = v) (hx : a.eval x = v2) (hown : w.ownsRow base e k v tr.length (flatV f tr)) (hsrc : SrcAt w f v2 news) (h1 : ∀ a ∈ news, ∀ u ∈ f a, u.oneCell' = true)
 (h63 : tr.length + news.length ≤ maxLen) (hbytes : (tr.length + news.length) * bytes ≤ 140737488355328) (hbase : base ≤ w.heap.size)
 (h : ∀ v' w', w'.ownsRow base e k v' (tr ++ news).length (flatV f (tr ++ news)) → w.grownBy w' v.ownBlock → K (a.put o.dst v') w') : o.wp P a w K Q := by
 rcases hsrc with ⟨rfl, p, c, rfl⟩ | ⟨b, of, c, rfl, hc⟩
 ·have hrun := run_append_owned_empty (P := P) (w := w) base t o.type e i k ht hi v _ _ hown p c
  unfold Oper.wp
  simp [execOp, ho, resolve, invoke, builtin, hs, hx, hrun, Result.andThen]
  exact h v w (by rw [List.append_nil]; exact hown) (grown_refl w _)
 ·refine wp_append_own w s x t ho base e i z k bytes ht hi hz hsize hby hzs hsz v tr.length (flatV f tr) hs hown ⟨b, of, none⟩ news.length c (flatV f news) hx (flatV_len f k hf news) (fun j u hj => ?_) (fun u hu => ?_) h63 hbytes hbase fun v' w' a1 a2 _ => h v' w' ?_ a2
  ·have e : (⟨b, of, none⟩ : Addr).add j = ⟨b, of + j, none⟩ := by unfold Addr.add; split <;> simp_all
   rw [e]; exact hc j u hj
  ·unfold flatV at hu
   obtain ⟨x, hx1, hx⟩ := List.mem_flatMap.1 hu
   exact h1 x hx1 u hx
  ·rw [List.length_append, flatV_append]; exact a1
theorem own_ge {w : World} {base : Nat} {e : TypeId} {size n : Nat} {v : Value} {xs : List Value} (h : w.ownsRow base e size v n xs) {q : Nat} (hq : v.ownBlock = some q) : base ≤ q ∧ ∃ cur, w.heap[q]? = some (.cells cur e (0, 0)) := by
 rcases h.2 with ⟨rfl, _⟩ | ⟨g, cap, cur, rfl, hb, hg, _⟩
 ·cases hq
 ·cases hq; exact ⟨hb, cur, hg⟩
abbrev CT := Tr.C × Value × Value
abbrev MT := Tr.M × Value × Value
def cCells (x : CT) : List Value := [.string x.1.name, .bool x.1.actor, x.2.1, x.2.2]
def mCells (x : MT) : List Value := [.string x.1.name, x.2.1, x.2.2]
theorem cCells_len (x : CT) : (cCells x).length = 4 := rfl
theorem mCells_len (x : MT) : (mCells x).length = 3 := rfl
theorem SlStr.one {w : World} {v : Value} {l : List ByteArray} (h : SlStr w v l) : v.oneCell' = true := by
 obtain ⟨p, c, rfl, _⟩ := h; rfl
theorem SlS.one {w : World} {v : Value} {l : List Tr.S} (h : SlS w v l) : v.oneCell' = true := by
 obtain ⟨p, c, rfl, _⟩ := h.form; rfl
theorem SlM.one {w : World} {v : Value} {l : List Tr.M} (h : SlM w v l) : v.oneCell' = true := by
 obtain ⟨p, c, rfl, _⟩ := h; rfl
theorem cCells_one {w : World} {l : List CT} (h : ∀ x ∈ l, ReadC w x.1 x.2.1 x.2.2) : ∀ a ∈ l, ∀ u ∈ cCells a, u.oneCell' = true := by
 intro a ha u hu
 obtain ⟨_, h1, h2⟩ := h a ha
 simp only [cCells, List.mem_cons, List.not_mem_nil, or_false] at hu
 rcases hu with rfl | rfl | rfl | rfl
 ·rfl
 ·rfl
 ·exact SlStr.one h1
 ·exact SlM.one h2
theorem mCells_one {w : World} {l : List MT} (h : ∀ x ∈ l, ReadM w x.1 x.2.1 x.2.2) : ∀ a ∈ l, ∀ u ∈ mCells a, u.oneCell' = true := by
 intro a ha u hu
 obtain ⟨_, h1, h2⟩ := h a ha
 simp only [mCells, List.mem_cons, List.not_mem_nil, or_false] at hu
 rcases hu with rfl | rfl | rfl
 ·rfl
 ·exact SlStr.one h1
 ·exact SlS.one h2
theorem own_cells {α : Type} {f : α → List Value} {k : Nat} (hf : ∀ a, (f a).length = k) {w : World} {base : Nat} {t : TypeId} {v : Value} {l : List α} (h : w.ownsRow base t k v l.length (flatV f l)) :
 (l = [] ∧ v = .slice none 0 0) ∨ ∃ g cap, v = .slice (some ⟨g, 0, none⟩) l.length cap ∧ g < w.heap.size ∧ l.length ≤ cap ∧ cap ≤ maxLen ∧ ∀ j a, l[j]? = some a → ∀ i u, (f a)[i]? = some u → w.cell? ⟨g, j * k + i, none⟩ = some u := by
 rcases h.2 with ⟨rfl, h0⟩ | ⟨g, cap, cur, rfl, _, hg, hnc, hcm, hcs, htk⟩
 ·exact .inl ⟨List.eq_nil_of_length_eq_zero h0, rfl⟩
 ·refine .inr ⟨g, cap, rfl, lt_of_block hg, hnc, hcm, fun j a hj i u hu => ?_⟩
  have hi : i < k := by have := (List.getElem?_eq_some_iff.1 hu).1; rw [hf] at this; exact this
  have h2 := flatV_get f k hf l j a i hi hj
  rw [hu] at h2
  have hlt := (List.getElem?_eq_some_iff.1 h2).1
  rw [flatV_len f k hf] at hlt
  rw [← htk, List.getElem?_take_of_lt hlt] at h2
  exact cell_of_blkP hg (by rw [← Array.getElem?_toList]; exact h2)
theorem slC_own {w : World} {base : Nat} {v : Value} {l : List CT} (h : w.ownsRow base 49 4 v l.length (flatV cCells l)) (hx : ∀ x ∈ l, ReadC w x.1 x.2.1 x.2.2) : SlC w v (l.map Prod.fst) := by
 rcases own_cells cCells_len h with ⟨rfl, rfl⟩ | ⟨g, cap, rfl, hg, hn, hm, hc⟩
 ·exact ⟨_, _, rfl, Nat.zero_le _, fun h => absurd rfl h, fun j n hj => by simp at hj⟩
 ·refine ⟨some ⟨g, 0, none⟩, cap, by rw [List.length_map], by rw [List.length_map]; omega, fun _ => by rw [List.length_map]; exact ⟨hn, hm⟩, fun j m hj => ?_⟩
  rw [List.getElem?_map, Option.map_eq_some_iff] at hj
  obtain ⟨a, ha, rfl⟩ := hj
  obtain ⟨h1, h2, h3⟩ := hx a (List.mem_of_getElem? ha)
  have c := hc j a ha
  exact ⟨h1, g, 0, a.2.1, a.2.2, rfl, hg, by rw [Nat.zero_add]; exact ⟨c 0 _ rfl, c 1 _ rfl, c 2 _ rfl, c 3 _ rfl⟩, h2, h3⟩
theorem slM_own {w : World} {base : Nat} {v : Value} {l : List MT} (h : w.ownsRow base 64 3 v l.length (flatV mCells l)) (hx : ∀ x ∈ l, ReadM w x.1 x.2.1 x.2.2) : SlM w v (l.map Prod.fst) := by
 rcases own_cells mCells_len h with ⟨rfl, rfl⟩ | ⟨g, cap, rfl, hg, hn, hm, hc⟩
 ·exact ⟨_, _, rfl, Nat.zero_le _, fun h => absurd rfl h, fun j n hj => by simp at hj⟩
 ·refine ⟨some ⟨g, 0, none⟩, cap, by rw [List.length_map], by rw [List.length_map]; omega, fun _ => by rw [List.length_map]; exact ⟨hn, hm⟩, fun j m hj => ?_⟩
  rw [List.getElem?_map, Option.map_eq_some_iff] at hj
  obtain ⟨a, ha, rfl⟩ := hj
  obtain ⟨h1, h2, h3⟩ := hx a (List.mem_of_getElem? ha)
  have c := hc j a ha
  exact ⟨h1, g, 0, a.2.1, a.2.2, rfl, hg, by rw [Nat.zero_add]; exact ⟨c 0 _ rfl, c 1 _ rfl, c 2 _ rfl⟩, h2, h3⟩
theorem SlC.rows {w : World} {v : Value} {cs : List Tr.C} (h : SlC w v cs) : ∃ l : List CT, l.map Prod.fst = cs ∧ (∀ x ∈ l, ReadC w x.1 x.2.1 x.2.2) ∧ SrcAt w cCells v l := by
 obtain ⟨p, c, rfl, hl, hn, hx⟩ := h
 by_cases h0 : cs = []
 ·subst h0
  exact ⟨[], rfl, fun x hx => absurd hx (by simp), .inl ⟨rfl, p, c, rfl⟩⟩
 ·obtain ⟨b, o, rfl⟩ : ∃ b o, p = some ⟨b, o, none⟩ := by
   cases cs with
   | nil => exact absurd rfl h0
   | cons a r => obtain ⟨_, b, o, _, _, e, _⟩ := hx 0 a rfl; exact ⟨b, o, e⟩
  have key : ∀ j, ∃ a : Value × Value, ∀ m, cs[j]? = some m → ReadC w m a.1 a.2 ∧ CellsC w b (o + j * 4) m a.1 a.2 := by
   intro j
   cases hj : cs[j]? with
   | none => exact ⟨(.bool false, .bool false), fun m hm => by cases hm⟩
   | some m =>
     obtain ⟨hnm, b', o', x, y, e, _, hc, h1, h2⟩ := hx j m hj
     cases e
     exact ⟨(x, y), fun m' hm => by cases hm; exact ⟨⟨hnm, h1, h2⟩, hc⟩⟩
  let A : Nat → Value × Value := fun j => Classical.choose (key j)
  have hA : ∀ j m, cs[j]? = some m → ReadC w m (A j).1 (A j).2 ∧ CellsC w b (o + j * 4) m (A j).1 (A j).2 := fun j => Classical.choose_spec (key j)
  have hget : ∀ (j : Nat) (x : CT), (cs.mapIdx fun j m => ((m, A j) : CT))[j]? = some x → cs[j]? = some x.1 ∧ x.2 = A j := by
   intro j x hj
   rw [List.getElem?_mapIdx, Option.map_eq_some_iff] at hj
   obtain ⟨m, hm, rfl⟩ := hj
   exact ⟨hm, rfl⟩
  refine ⟨cs.mapIdx fun j m => (m, A j), ?_, fun x hxm => ?_, .inr ⟨b, o, c, by rw [List.length_mapIdx], fun j u hj => ?_⟩⟩
  ·apply List.ext_getElem?
   intro j
   rw [List.getElem?_map, List.getElem?_mapIdx, Option.map_map]
   cases cs[j]? <;> rfl
  ·obtain ⟨j, hj, rfl⟩ := List.getElem_of_mem hxm
   obtain ⟨e1, e2⟩ := hget j _ (List.getElem?_eq_getElem hj)
   have := (hA j _ e1).1
   rw [← e2] at this
   exact this
  ·refine flatV_cells cCells 4 cCells_len _ o (fun j a ha i u hu => ?_) j u hj
   obtain ⟨e1, e2⟩ := hget j a ha
   have h4 := (hA j _ e1).2
   rw [← e2] at h4
   match i, hu with
   | 0, hu => cases hu; exact h4.1
   | 1, hu => cases hu; exact h4.2.1
   | 2, hu => cases hu; exact h4.2.2.1
   | 3, hu => cases hu; exact h4.2.2.2
theorem SlM.rows {w : World} {v : Value} {cs : List Tr.M} (h : SlM w v cs) : ∃ l : List MT, l.map Prod.fst = cs ∧ (∀ x ∈ l, ReadM w x.1 x.2.1 x.2.2) ∧ SrcAt w mCells v l := by
 obtain ⟨p, c, rfl, hl, hn, hx⟩ := h
 by_cases h0 : cs = []
 ·subst h0
  exact ⟨[], rfl, fun x hx => absurd hx (by simp), .inl ⟨rfl, p, c, rfl⟩⟩
 ·obtain ⟨b, o, rfl⟩ : ∃ b o, p = some ⟨b, o, none⟩ := by
   cases cs with
   | nil => exact absurd rfl h0
   | cons a r => obtain ⟨_, b, o, _, _, e, _⟩ := hx 0 a rfl; exact ⟨b, o, e⟩
  have key : ∀ j, ∃ a : Value × Value, ∀ m, cs[j]? = some m → ReadM w m a.1 a.2 ∧ CellsM w b (o + j * 3) m a.1 a.2 := by
   intro j
   cases hj : cs[j]? with
   | none => exact ⟨(.bool false, .bool false), fun m hm => by cases hm⟩
   | some m =>
     obtain ⟨hnm, b', o', x, y, e, _, hc, h1, h2⟩ := hx j m hj
     cases e
     exact ⟨(x, y), fun m' hm => by cases hm; exact ⟨⟨hnm, h1, h2⟩, hc⟩⟩
  let A : Nat → Value × Value := fun j => Classical.choose (key j)
  have hA : ∀ j m, cs[j]? = some m → ReadM w m (A j).1 (A j).2 ∧ CellsM w b (o + j * 3) m (A j).1 (A j).2 := fun j => Classical.choose_spec (key j)
  have hget : ∀ (j : Nat) (x : MT), (cs.mapIdx fun j m => ((m, A j) : MT))[j]? = some x → cs[j]? = some x.1 ∧ x.2 = A j := by
   intro j x hj
   rw [List.getElem?_mapIdx, Option.map_eq_some_iff] at hj
   obtain ⟨m, hm, rfl⟩ := hj
   exact ⟨hm, rfl⟩
  refine ⟨cs.mapIdx fun j m => (m, A j), ?_, fun x hxm => ?_, .inr ⟨b, o, c, by rw [List.length_mapIdx], fun j u hj => ?_⟩⟩
  ·apply List.ext_getElem?
   intro j
   rw [List.getElem?_map, List.getElem?_mapIdx, Option.map_map]
   cases cs[j]? <;> rfl
  ·obtain ⟨j, hj, rfl⟩ := List.getElem_of_mem hxm
   obtain ⟨e1, e2⟩ := hget j _ (List.getElem?_eq_getElem hj)
   have := (hA j _ e1).1
   rw [← e2] at this
   exact this
  ·refine flatV_cells mCells 3 mCells_len _ o (fun j a ha i u hu => ?_) j u hj
   obtain ⟨e1, e2⟩ := hget j a ha
   have h4 := (hA j _ e1).2
   rw [← e2] at h4
   match i, hu with
   | 0, hu => cases hu; exact h4.1
   | 1, hu => cases hu; exact h4.2.1
   | 2, hu => cases hu; exact h4.2.2
abbrev ET := Tr.E × Value
theorem eCells_len (x : ET) : (eCells x).length = 6 := rfl
def ReadET (w : World) (x : ET) : Prop := BdE x.1 ∧ SlE w x.2 x.1.args
theorem SlE.one {w : World} {v : Value} {l : List Tr.E} (h : SlE w v l) : v.oneCell' = true := by cases h <;> rfl
theorem eCells_one {w : World} {l : List ET} (h : ∀ x ∈ l, ReadET w x) : ∀ a ∈ l, ∀ u ∈ eCells a, u.oneCell' = true := by
 intro a ha u hu
 obtain ⟨_, h1⟩ := h a ha
 simp only [eCells, List.mem_cons, List.not_mem_nil, or_false] at hu
 rcases hu with rfl | rfl | rfl | rfl | rfl | rfl
 ·rfl
 ·rfl
 ·rfl
 ·rfl
 ·rfl
 ·exact SlE.one h1
theorem slE_own {w : World} {base : Nat} {v : Value} {l : List ET} (h : w.ownsRow base 33 6 v l.length (flatV eCells l)) (hx : ∀ x ∈ l, ReadET w x) : SlE w v (l.map Prod.fst) := by
 rcases own_cells eCells_len h with ⟨rfl, rfl⟩ | ⟨g, cap, rfl, hg, hn, hm, hc⟩
 ·exact .nil _ _
 ·have hlen : (l.map Prod.fst).length = l.length := List.length_map ..
  have e : (Value.slice (some ⟨g, 0, none⟩) l.length cap) = .slice (some ⟨g, 0, none⟩) (l.map Prod.fst).length cap := by rw [hlen]
  rw [e]
  refine .row g 0 cap _ (fun j => (l[j]?.map Prod.snd).getD (.bool false)) (by rw [hlen]; exact hn) hm (fun j m hj => ?_) (fun j m hj => ?_)
  ·rw [List.getElem?_map, Option.map_eq_some_iff] at hj
   obtain ⟨a, ha, rfl⟩ := hj
   have c := hc j a ha
   rw [ha, Nat.zero_add]
   exact ⟨⟨c 0 _ rfl, c 1 _ rfl, c 2 _ rfl, c 3 _ rfl, c 4 _ rfl, c 5 _ rfl⟩, (hx a (List.mem_of_getElem? ha)).1⟩
  ·rw [List.getElem?_map, Option.map_eq_some_iff] at hj
   obtain ⟨a, ha, rfl⟩ := hj
   rw [ha]
   exact (hx a (List.mem_of_getElem? ha)).2
theorem SlE.rows {w : World} {v : Value} {es : List Tr.E} (h : SlE w v es) : ∃ l : List ET, l.map Prod.fst = es ∧ (∀ x ∈ l, ReadET w x) ∧ SrcAt w eCells v l := by
 cases h with
 | nil p c => exact ⟨[], rfl, fun x hx => absurd hx (by simp), .inl ⟨rfl, p, c, rfl⟩⟩
 | row b o c l A hn hm hc ha =>
   have hget : ∀ (j : Nat) (x : ET), (es.mapIdx fun j m => ((m, A j) : ET))[j]? = some x → es[j]? = some x.1 ∧ x.2 = A j := by
    intro j x hj
    rw [List.getElem?_mapIdx, Option.map_eq_some_iff] at hj
    obtain ⟨m, hm, rfl⟩ := hj
    exact ⟨hm, rfl⟩
   refine ⟨es.mapIdx fun j m => (m, A j), ?_, fun x hxm => ?_, .inr ⟨b, o, c, by rw [List.length_mapIdx], fun j u hj => ?_⟩⟩
   ·apply List.ext_getElem?
    intro j
    rw [List.getElem?_map, List.getElem?_mapIdx, Option.map_map]
    cases es[j]? <;> rfl
   ·obtain ⟨j, hj, rfl⟩ := List.getElem_of_mem hxm
    obtain ⟨e1, e2⟩ := hget j _ (List.getElem?_eq_getElem hj)
    refine ⟨(hc j _ e1).2, ?_⟩
    rw [e2]
    exact ha j _ e1
   ·refine flatV_cells eCells 6 eCells_len (es.mapIdx fun j m => ((m, A j) : ET)) o (fun j' a hj' i u hu => ?_) j u hj
    obtain ⟨e1, e2⟩ := hget j' a hj'
    obtain ⟨⟨x0, x1, x2, x3, x4, x5⟩, _⟩ := hc j' _ e1
    rw [← e2] at x5
    simp only [eCells] at hu
    match i, hu with
    | 0, hu => cases hu; exact x0
    | 1, hu => cases hu; exact x1
    | 2, hu => cases hu; exact x2
    | 3, hu => cases hu; exact x3
    | 4, hu => cases hu; exact x4
    | 5, hu => cases hu; exact x5
    | i + 6, hu => simp at hu
theorem info_parts {i : Option TypeInfo} {z : Value} {s b : Nat} (h : i.map (fun i => (i.zero, i.size, i.bytes)) = some (some z, s, b)) : ∃ i0, i = some i0 ∧ i0.zero = some z ∧ i0.size = s ∧ i0.bytes = b := by
 cases i with
 | none => cases h
 | some i0 =>
   simp only [Option.map_some, Option.some.injEq, Prod.mk.injEq] at h
   exact ⟨i0, rfl, h.1, h.2.1, h.2.2⟩
theorem classInfo : (Tryz.prog.info? 49).map (fun i => (i.zero, i.size, i.bytes)) = some (some (.agg #[.string ⟨#[]⟩, .bool false, .slice none 0 0, .slice none 0 0]), 4, 72) := by kernel_rfl
theorem exprInfo : (Tryz.prog.info? 33).map (fun i => (i.zero, i.size, i.bytes)) = some (some (.agg #[.int .i64 0, .int .i64 0, .int .i64 0, .string ⟨#[]⟩, .bool false, .slice none 0 0]), 6, 72) := by kernel_rfl
theorem own_form {w : World} {b : Nat} {e : TypeId} {size n : Nat} {v : Value} {xs : List Value} (h : w.ownsRow b e size v n xs) : ∃ p cap, v = .slice p n cap := by
 rcases h.2 with ⟨rfl, rfl⟩ | ⟨g, cap, cur, rfl, _⟩
 ·exact ⟨_, _, rfl⟩
 ·exact ⟨_, _, rfl⟩
abbrev ST := Tr.S × Value × Value × Value
def sCells (x : ST) : List Value := [.int .i64 x.1.kind, .string x.1.name, x.2.1, x.2.2.1, x.2.2.2]
theorem sCells_len (x : ST) : (sCells x).length = 5 := rfl
def ReadST (w : World) (x : ST) : Prop := BdS x.1 ∧ SlE w x.2.1 x.1.exprs ∧ SlS w x.2.2.1 x.1.body ∧ SlS w x.2.2.2 x.1.els
theorem sCells_one {w : World} {l : List ST} (h : ∀ x ∈ l, ReadST w x) : ∀ a ∈ l, ∀ u ∈ sCells a, u.oneCell' = true := by
 intro a ha u hu
 obtain ⟨_, h1, h2, h3⟩ := h a ha
 simp only [sCells, List.mem_cons, List.not_mem_nil, or_false] at hu
 rcases hu with rfl | rfl | rfl | rfl | rfl
 ·rfl
 ·rfl
 ·exact SlE.one h1
 ·exact SlS.one h2
 ·exact SlS.one h3
theorem slS_own {w : World} {base : Nat} {v : Value} {l : List ST} (h : w.ownsRow base 94 5 v l.length (flatV sCells l)) (hx : ∀ x ∈ l, ReadST w x) : SlS w v (l.map Prod.fst) := by
 rcases own_cells sCells_len h with ⟨rfl, rfl⟩ | ⟨g, cap, rfl, hg, hn, hm, hc⟩
 ·exact .nil _ _
 ·have hlen : (l.map Prod.fst).length = l.length := List.length_map ..
  have e : (Value.slice (some ⟨g, 0, none⟩) l.length cap) = .slice (some ⟨g, 0, none⟩) (l.map Prod.fst).length cap := by rw [hlen]
  rw [e]
  refine .row g 0 cap _ (fun j => (l[j]?.map (·.2.1)).getD (.bool false)) (fun j => (l[j]?.map (·.2.2.1)).getD (.bool false)) (fun j => (l[j]?.map (·.2.2.2)).getD (.bool false)) (by rw [hlen]; exact hn) hm (fun j m hj => ?_) (fun j m hj => ?_) (fun j m hj => ?_) (fun j m hj => ?_)
  all_goals
   rw [List.getElem?_map, Option.map_eq_some_iff] at hj
   obtain ⟨a, ha, rfl⟩ := hj
   rw [ha]
   obtain ⟨r1, r2, r3, r4⟩ := hx a (List.mem_of_getElem? ha)
  ·have c := hc j a ha
   rw [Nat.zero_add]
   exact ⟨⟨c 0 _ rfl, c 1 _ rfl, c 2 _ rfl, c 3 _ rfl, c 4 _ rfl⟩, r1⟩
  ·exact r2
  ·exact r3
  ·exact r4
def nCells (x : ByteArray) : List Value := [.string x]
theorem nCells_len (x : ByteArray) : (nCells x).length = 1 := rfl
theorem nCells_one (l : List ByteArray) : ∀ a ∈ l, ∀ u ∈ nCells a, u.oneCell' = true := by
 intro a _ u hu
 obtain rfl := List.mem_singleton.1 hu
 rfl
theorem slStr_own {w : World} {base : Nat} {v : Value} {l : List ByteArray} (h : w.ownsRow base 9 1 v l.length (flatV nCells l)) (hx : ∀ x ∈ l, x.size ≤ maxLen) : SlStr w v l := by
 rcases own_cells nCells_len h with ⟨rfl, rfl⟩ | ⟨g, cap, rfl, hg, hn, hm, hc⟩
 ·exact ⟨_, _, rfl, Nat.zero_le _, fun h => absurd rfl h, fun j n hj => by simp at hj⟩
 ·refine ⟨some ⟨g, 0, none⟩, cap, rfl, by omega, fun _ => ⟨hn, hm⟩, fun j m hj => ?_⟩
  have c := hc j m hj 0 _ rfl
  rw [Nat.mul_one] at c
  exact ⟨hx m (List.mem_of_getElem? hj), g, 0, rfl, hg, by rw [Nat.zero_add]; exact c⟩
theorem stmtInfo : (Tryz.prog.info? 94).map (fun i => (i.zero, i.size, i.bytes)) = some (some (.agg #[.int .i64 0, .string ⟨#[]⟩, .slice none 0 0, .slice none 0 0, .slice none 0 0]), 5, 96) := by kernel_rfl
theorem methodInfo : (Tryz.prog.info? 64).map (fun i => (i.zero, i.size, i.bytes)) = some (some (.agg #[.string ⟨#[]⟩, .slice none 0 0, .slice none 0 0]), 3, 64) := by kernel_rfl
theorem strInfo : (Tryz.prog.info? 9).map (fun i => (i.zero, i.size, i.bytes)) = some (some (.string ⟨#[]⟩), 1, 16) := by kernel_rfl
theorem slE_blk1 {w : World} {g : Nat} {e : Tr.E} {a : Value} {t : TypeId} (h : w.heap[g]? = some (.cells #[.int .i64 e.kind, .int .i64 e.op, .int .i64 e.int, .string e.name, .bool e.at_, a] t (0, 0))) (hb : BdE e) (hs : SlE w a e.args) : SlE w (.slice (some ⟨g, 0, none⟩) 1 1) [e] :=
 slE_blk h [(e, a)] (by simp) rfl (fun z hz => by
  obtain rfl := List.mem_singleton.1 hz
  exact ⟨hb, hs⟩)
end Pw
end Go.Proofs.YtdckddkalgnlpaaGreatDoor
namespace Go.Proofs.YtdckddkalgnlpaaGreatDoor
open Go.RowKit Pw
namespace Pa
section
variable {α β : Type}
def Ev (p : Nat → R α) (x : R α) : Prop := ∃ F, ∀ f, F ≤ f → p f = x
theorem Ev.det {p : Nat → R α} {x y : R α} (h : Ev p x) (h2 : Ev p y) : x = y := by
 obtain ⟨F, h⟩ := h
 obtain ⟨G, h2⟩ := h2
 rw [← h (F + G) (by omega), h2 (F + G) (by omega)]
theorem Ev.const (x : R α) : Ev (fun _ => x) x := ⟨0, fun _ _ => rfl⟩
theorem Ev.cong {p q : Nat → R α} {x : R α} (h : ∀ f, p f = q f) (hb : Ev q x) : Ev p x := by
 obtain ⟨F, hb⟩ := hb
 exact ⟨F, fun f hf => (h f).trans (hb f hf)⟩
theorem Ev.step {p q : Nat → R α} {x : R α} (h : ∀ f, p (f + 1) = q f) (hb : Ev q x) : Ev p x := by
 obtain ⟨F, hb⟩ := hb
 refine ⟨F + 1, fun f hf => ?_⟩
 obtain ⟨g, rfl⟩ : ∃ g, f = g + 1 := ⟨f - 1, by omega⟩
 rw [h, hb g (by omega)]
theorem Ev.succ {p : Nat → R α} {x : R α} (h : Ev p x) : Ev (fun f => p (f + 1)) x := by
 obtain ⟨F, h⟩ := h
 exact ⟨F, fun f hf => h (f + 1) (by omega)⟩
theorem Ev.ok {p : Nat → R α} {q : Nat → α → Toks → R β} {a : α} {r : Toks} {x : R β} (h : Ev p (.ok a r)) (h2 : Ev (fun f => q f a r) x) : Ev (fun f => (p f).bind (q f)) x := by
 obtain ⟨F, h⟩ := h
 obtain ⟨G, h2⟩ := h2
 refine ⟨F + G, fun f hf => ?_⟩
 show (p f).bind (q f) = _
 rw [h f (by omega)]
 exact h2 f (by omega)
theorem Ev.bad {p : Nat → R α} {q : Nat → α → Toks → R β} {r : Toks} (h : Ev p (.bad r)) : Ev (fun f => (p f).bind (q f)) (.bad r) := by
 obtain ⟨F, h⟩ := h
 refine ⟨F, fun f hf => ?_⟩
 show (p f).bind (q f) = _
 rw [h f hf]
 rfl
end
def tb (t : Lex.Tok) : B := ⟨t.kind, t.text, t.val⟩
structure TkL (L : List Lex.Tok) (n : Nat) : Prop where
 len : L.length = n + 1
 last : ∃ p, L[n]? = some ⟨0, [], 0, p⟩
 kind : ∀ j t, j < n → L[j]? = some t → t.kind ≠ 0
 pos : ∀ t ∈ L, t.pos ≤ 1000000 ∧ t.val ≤ 9223372036854775807 ∧ t.kind ≤ 1000 ∧ t.text.length ≤ 1000000
 few : n ≤ 1000000
def rest (L : List Lex.Tok) (n k : Nat) : Toks := ((L.take n).drop k).map tb
theorem rest_end (L : List Lex.Tok) (n : Nat) : rest L n n = [] := by
 unfold rest
 rw [List.drop_of_length_le (by rw [List.length_take]; omega)]
 rfl
theorem rest_cons {L : List Lex.Tok} {n k : Nat} {t : Lex.Tok} (h : k < n) (ht : L[k]? = some t) : rest L n k = tb t :: rest L n (k + 1) := by
 unfold rest
 have hk : k < (L.take n).length := by
  have := (List.getElem?_eq_some_iff.1 ht).1
  rw [List.length_take]
  omega
 rw [List.drop_eq_getElem_cons hk, List.map_cons]
 congr 2
 rw [List.getElem_take]
 exact (List.getElem?_eq_some_iff.1 ht).2
theorem rest_len {L : List Lex.Tok} {n : Nat} (h : TkL L n) (k : Nat) : (rest L n k).length = n - k := by
 unfold rest
 rw [List.length_map, List.length_drop, List.length_take, h.len]
 omega
theorem rest_inj {L : List Lex.Tok} {n j k : Nat} (h : TkL L n) (hj : j ≤ n) (hk : k ≤ n) (e : rest L n j = rest L n k) : j = k := by
 have := congrArg List.length e
 rw [rest_len h, rest_len h] at this
 omega
theorem TkL.get {L : List Lex.Tok} {n k : Nat} (h : TkL L n) (hk : k ≤ n) : ∃ t, L[k]? = some t :=
 ⟨_, List.getElem?_eq_getElem (by rw [h.len]; omega)⟩
theorem is_at {L : List Lex.Tok} {n k : Nat} (h : TkL L n) (hk : k ≤ n) {t : Lex.Tok} (ht : L[k]? = some t) (s : Bytes) (hs : s ≠ []) : is s (rest L n k) = (t.text == s && (t.kind == 4 || t.kind == 5)) := by
 rcases Nat.lt_or_ge k n with hlt | hge
 ·rw [rest_cons hlt ht, is_cons]
  rfl
 ·obtain rfl : k = n := by omega
  obtain ⟨p, hp⟩ := h.last
  rw [hp] at ht
  cases ht
  rw [rest_end]
  show false = (([] : Bytes) == s && _)
  have : (([] : Bytes) == s) = false := beq_eq_false_iff_ne.2 (fun e => hs e.symm)
  rw [this]
  rfl
theorem is_lt {L : List Lex.Tok} {n k : Nat} (hk : k ≤ n) {s : Bytes} (h : is s (rest L n k) = true) : k < n := by
 rcases Nat.lt_or_ge k n with hlt | hge
 ·exact hlt
 ·obtain rfl : k = n := by omega
  rw [rest_end] at h
  cases h
theorem rest_tail {L : List Lex.Tok} {n k : Nat} (h : TkL L n) (hk : k < n) : (rest L n k).tail = rest L n (k + 1) := by
 obtain ⟨t, ht⟩ := h.get (Nat.le_of_lt hk)
 rw [rest_cons hk ht]
 rfl
theorem expect_at {L : List Lex.Tok} {n k : Nat} (h : TkL L n) (hk : k ≤ n) (s : Bytes) : expect s (rest L n k) = if is s (rest L n k) then .ok () (rest L n (k + 1)) else .bad (rest L n k) := by
 unfold expect
 cases hc : is s (rest L n k) with
 | false => rfl
 | true => rw [if_pos rfl, if_pos rfl, rest_tail h (is_lt hk hc)]
end Pa
theorem gr_refl (w : World) (r : Option Nat) : w.grownBy w r := ⟨rfl, rfl, rfl, Nat.le_refl _, fun _ _ _ => rfl⟩
theorem gr_trans {a b c : World} {r : Option Nat} (h : a.grownBy b r) (k : b.grownBy c r) : a.grownBy c r :=
 ⟨k.os.trans h.os, k.tape.trans h.tape, k.output.trans h.output, Nat.le_trans h.size k.size, fun i hi hn => (k.block i (Nat.lt_of_lt_of_le hi h.size) hn).trans (h.block i hi hn)⟩
theorem gr_below {a b : World} (h : Below a.heap.size a b) (r : Option Nat) : a.grownBy b r := ⟨h.os, h.tape, h.output, h.size, fun i hi _ => h.block i hi⟩
theorem gr_fresh {a b : World} (h : a.grownBy b none) : Below a.heap.size a b := ⟨h.os, h.tape, h.output, h.size, fun k hk => h.block k hk (fun e => by cases e)⟩
theorem gr_alloc {a b : World} {r : Option Nat} (h : a.grownBy b r) (o : Obj) : a.grownBy (b.alloc o) r := gr_trans h (World.grownBy_alloc _ _ _)
theorem gr_drew {a b : World} {r : Option Nat} (h : a.grownBy b r) : a.grownBy b.drew r := ⟨h.os, h.tape, h.output, h.size, h.block⟩
theorem gr_new {a b c : World} {r : Option Nat} {g : Nat} (h : a.grownBy b r) (hc : b.grownBy c (some g)) (hg : a.heap.size ≤ g) : a.grownBy c r :=
 ⟨hc.os.trans h.os, hc.tape.trans h.tape, hc.output.trans h.output, Nat.le_trans h.size hc.size, fun i hi hn => (hc.block i (Nat.lt_of_lt_of_le hi h.size) (fun e => by cases e; omega)).trans (h.block i hi hn)⟩
theorem gr_none {a b c : World} {r : Option Nat} (h : a.grownBy b r) (hc : b.grownBy c none) : a.grownBy c r :=
 ⟨hc.os.trans h.os, hc.tape.trans h.tape, hc.output.trans h.output, Nat.le_trans h.size hc.size, fun i hi hn => (hc.block i (Nat.lt_of_lt_of_le hi h.size) (fun e => by cases e)).trans (h.block i hi hn)⟩
theorem gr_set (w : World) (g j : Nat) (u : Value) : w.grownBy (w.setCell ⟨g, j, none⟩ u) (some g) :=
 ⟨rfl, rfl, rfl, by simp, fun k _ hk => heap_setCell_other w ⟨g, j, none⟩ k u (fun e => hk (by rw [e]))⟩
theorem gr_at {a b : World} {r : Option Nat} (h : a.grownBy b r) {g : Nat} {o : Obj} (hg : a.heap[g]? = some o) (hn : some g ≠ r) : b.heap[g]? = some o := (h.block g (Array.getElem?_eq_some_iff.1 hg).1 hn).trans hg
theorem gr_cell {a b : World} {r : Option Nat} (h : a.grownBy b r) {g j : Nat} {v : Value} (hg : a.cell? ⟨g, j, none⟩ = some v) (hn : some g ≠ r) : b.cell? ⟨g, j, none⟩ = some v := by
 have hb := h.block g (cell_lt' hg) hn
 unfold World.cell? at hg ⊢
 rw [hb]
 exact hg
def set4 (w : World) (b : Nat) (x0 x1 x2 x3 : Value) : World := ((((w.setCell ⟨b, 0, none⟩ x0).setCell ⟨b, 1, none⟩ x1).setCell ⟨b, 2, none⟩ x2).setCell ⟨b, 3, none⟩ x3)
theorem set4_blk {w : World} {b : Nat} {y0 y1 y2 y3 : Value} {t : TypeId} (x0 x1 x2 x3 : Value) (h : w.heap[b]? = some (.cells #[y0, y1, y2, y3] t (0, 0))) : (set4 w b x0 x1 x2 x3).heap[b]? = some (.cells #[x0, x1, x2, x3] t (0, 0)) :=
 heap_set (j := 3) x3 (heap_set (j := 2) x2 (heap_set (j := 1) x1 (heap_set (j := 0) x0 (h))))
theorem set4_gr (w : World) (b : Nat) (x0 x1 x2 x3 : Value) : w.grownBy (set4 w b x0 x1 x2 x3) (some b) :=
 gr_trans (gr_trans (gr_trans (gr_trans (gr_refl _ _) (gr_set _ b 0 x0)) (gr_set _ b 1 x1)) (gr_set _ b 2 x2)) (gr_set _ b 3 x3)
def set5 (w : World) (b : Nat) (x0 x1 x2 x3 x4 : Value) : World := (((((w.setCell ⟨b, 0, none⟩ x0).setCell ⟨b, 1, none⟩ x1).setCell ⟨b, 2, none⟩ x2).setCell ⟨b, 3, none⟩ x3).setCell ⟨b, 4, none⟩ x4)
theorem set5_blk {w : World} {b : Nat} {y0 y1 y2 y3 y4 : Value} {t : TypeId} (x0 x1 x2 x3 x4 : Value) (h : w.heap[b]? = some (.cells #[y0, y1, y2, y3, y4] t (0, 0))) : (set5 w b x0 x1 x2 x3 x4).heap[b]? = some (.cells #[x0, x1, x2, x3, x4] t (0, 0)) :=
 heap_set (j := 4) x4 (heap_set (j := 3) x3 (heap_set (j := 2) x2 (heap_set (j := 1) x1 (heap_set (j := 0) x0 (h)))))
theorem set5_gr (w : World) (b : Nat) (x0 x1 x2 x3 x4 : Value) : w.grownBy (set5 w b x0 x1 x2 x3 x4) (some b) :=
 gr_trans (gr_trans (gr_trans (gr_trans (gr_trans (gr_refl _ _) (gr_set _ b 0 x0)) (gr_set _ b 1 x1)) (gr_set _ b 2 x2)) (gr_set _ b 3 x3)) (gr_set _ b 4 x4)
def set6 (w : World) (b : Nat) (x0 x1 x2 x3 x4 x5 : Value) : World := ((((((w.setCell ⟨b, 0, none⟩ x0).setCell ⟨b, 1, none⟩ x1).setCell ⟨b, 2, none⟩ x2).setCell ⟨b, 3, none⟩ x3).setCell ⟨b, 4, none⟩ x4).setCell ⟨b, 5, none⟩ x5)
theorem set6_blk {w : World} {b : Nat} {y0 y1 y2 y3 y4 y5 : Value} {t : TypeId} (x0 x1 x2 x3 x4 x5 : Value) (h : w.heap[b]? = some (.cells #[y0, y1, y2, y3, y4, y5] t (0, 0))) : (set6 w b x0 x1 x2 x3 x4 x5).heap[b]? = some (.cells #[x0, x1, x2, x3, x4, x5] t (0, 0)) :=
 heap_set (j := 5) x5 (heap_set (j := 4) x4 (heap_set (j := 3) x3 (heap_set (j := 2) x2 (heap_set (j := 1) x1 (heap_set (j := 0) x0 (h))))))
theorem set6_gr (w : World) (b : Nat) (x0 x1 x2 x3 x4 x5 : Value) : w.grownBy (set6 w b x0 x1 x2 x3 x4 x5) (some b) :=
 gr_trans (gr_trans (gr_trans (gr_trans (gr_trans (gr_trans (gr_refl _ _) (gr_set _ b 0 x0)) (gr_set _ b 1 x1)) (gr_set _ b 2 x2)) (gr_set _ b 3 x3)) (gr_set _ b 4 x4)) (gr_set _ b 5 x5)
structure PS (L : List Lex.Tok) (n tbk tc P k : Nat) (W : World) : Prop where
 blk : W.heap[P]? = some (.cells #[.slice (some ⟨tbk, 0, none⟩) (n + 1) tc, .int .i64 k] 102 (0, 0))
 toks : ToksAt W tbk L
 lt : tbk < W.heap.size
 ne : tbk ≠ P
 le : k ≤ n
 cap : n + 1 ≤ tc
theorem PS.keep {L : List Lex.Tok} {n tbk tc P k : Nat} {W W' : World} {r : Option Nat} (h : PS L n tbk tc P k W) (hg : W.grownBy W' r) (h1 : some P ≠ r) (h2 : some tbk ≠ r) : PS L n tbk tc P k W' :=
 ⟨gr_at hg h.blk h1, fun j t hj => by
  obtain ⟨a, b, c, d⟩ := h.toks j t hj
  exact ⟨gr_cell hg a h2, gr_cell hg b h2, gr_cell hg c h2, gr_cell hg d h2⟩, Nat.lt_of_lt_of_le h.lt hg.size, h.ne, h.le, h.cap⟩
theorem PS.below {L : List Lex.Tok} {n tbk tc P k : Nat} {W W' : World} (h : PS L n tbk tc P k W) (hb : Below W.heap.size W W') : PS L n tbk tc P k W' := h.keep (gr_below hb none) (fun e => by cases e) (fun e => by cases e)
theorem PS.plt {L : List Lex.Tok} {n tbk tc P k : Nat} {W : World} (h : PS L n tbk tc P k W) : P < W.heap.size := (Array.getElem?_eq_some_iff.1 h.blk).1
theorem PS.set {L : List Lex.Tok} {n tbk tc P k : Nat} {W : World} (h : PS L n tbk tc P k W) {k' : Nat} (hk : k' ≤ n) : PS L n tbk tc P k' (W.setCell ⟨P, 1, none⟩ (.int .i64 k')) := by
 have hg := gr_set W P 1 (.int .i64 k')
 refine ⟨?_, fun j t hj => ?_, ?_, h.ne, hk, h.cap⟩
 ·have := heap_set (j := 1) (.int .i64 (k' : Int)) h.blk
  exact this
 ·obtain ⟨a, b, c, d⟩ := h.toks j t hj
  have hn : some tbk ≠ some P := fun e => h.ne (by injection e)
  exact ⟨gr_cell hg a hn, gr_cell hg b hn, gr_cell hg c hn, gr_cell hg d hn⟩
 ·exact Nat.lt_of_lt_of_le h.lt hg.size
def failV (p : Nat) : List PanicEntry := [{ v := .iface 100 (.int .i64 p), recovered := false }]
end Go.Proofs.YtdckddkalgnlpaaGreatDoor
