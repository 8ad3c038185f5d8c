/-
  Rows of statements that a call builds, with a footprint.
-/
import Derived.Test.YtdafdbjdnebnfaaGreatDoorCkRenE
namespace Go.Proofs.YtdafdbjdnebnfaaGreatDoor
open Go.RowKit Go.Maps

inductive SlSf (w : World) (F : Nat → Prop) : Value → List Tr.S → Prop
  | nil (p : Option Addr) (c : Nat) : SlSf w F (.slice p 0 c) []
  | row (b o c : Nat) (l : List Tr.S) (X Y Z : Nat → Value) (hb : F b) (hn : l.length ≤ c) (hm : c ≤ maxLen) (hc : ∀ j s, l[j]? = some s → CellsS w b (o + j * 5) s (X j) (Y j) (Z j) ∧ BdS s)
      (hx : ∀ j s, l[j]? = some s → SlEf w F (X j) s.exprs) (hy : ∀ j s, l[j]? = some s → SlSf w F (Y j) s.body) (hz : ∀ j s, l[j]? = some s → SlSf w F (Z j) s.els) : SlSf w F (.slice (some ⟨b, o, none⟩) l.length c) l
theorem SlSf.to {w : World} {F : Nat → Prop} {v : Value} {l : List Tr.S} (h : SlSf w F v l) : SlS w v l := by
  induction h with
  | nil p c => exact .nil p c
  | row b o c l X Y Z hb hn hm hc hx hy hz ih1 ih2 => exact .row b o c l X Y Z hn hm hc (fun j s hj => (hx j s hj).to) ih1 ih2
theorem SlSf.move {w w' : World} {F G : Nat → Prop} {v : Value} {l : List Tr.S} (h : SlSf w F v l) (hk : ∀ b, F b → b < w.heap.size → w'.heap[b]? = w.heap[b]?) (hF : ∀ b, F b → b < w.heap.size → G b) : SlSf w' G v l := by
  induction h with
  | nil p c => exact .nil p c
  | row b o c l X Y Z hb hn hm hc hx hy hz ih1 ih2 =>
    by_cases h0 : l = []
    · subst h0; exact .nil _ c
    · have hlt : b < w.heap.size := by
        cases l with
        | nil => exact absurd rfl h0
        | cons x r => exact cell_lt' (hc 0 x rfl).1.1
      have hcell : ∀ o u, w.cell? ⟨b, o, none⟩ = some u → w'.cell? ⟨b, o, none⟩ = some u := fun o u hu => by
        unfold World.cell? at hu ⊢
        rw [hk b hb hlt]; exact hu
      exact .row b o c l X Y Z (hF b hb hlt) hn hm (fun j e hj => by
        obtain ⟨⟨a1, a2, a3, a4, a5⟩, hbd⟩ := hc j e hj
        exact ⟨⟨hcell _ _ a1, hcell _ _ a2, hcell _ _ a3, hcell _ _ a4, hcell _ _ a5⟩, hbd⟩) (fun j e hj => (hx j e hj).move hk hF) (fun j e hj => ih1 j e hj) (fun j e hj => ih2 j e hj)
theorem SlSf.one {w : World} {F : Nat → Prop} {v : Value} {l : List Tr.S} (h : SlSf w F v l) : v.oneCell' = true := by cases h <;> rfl
abbrev ST := Tr.S × Value × Value × Value
def sCells (x : ST) : List Value := [.int .i64 x.1.kind, .string x.1.name, x.2.1, x.2.2.1, x.2.2.2]
theorem sCells_len (x : ST) : (sCells x).length = 5 := rfl
structure ReadSf (w : World) (F : Nat → Prop) (x : ST) : Prop where
  bd : BdS x.1
  ex : SlEf w F x.2.1 x.1.exprs
  body : SlSf w F x.2.2.1 x.1.body
  els : SlSf w F x.2.2.2 x.1.els
theorem ReadSf.move {w w' : World} {F G : Nat → Prop} {x : ST} (h : ReadSf w F x) (hk : ∀ b, F b → b < w.heap.size → w'.heap[b]? = w.heap[b]?) (hF : ∀ b, F b → b < w.heap.size → G b) : ReadSf w' G x :=
  ⟨h.bd, h.ex.move hk hF, h.body.move hk hF, h.els.move hk hF⟩
theorem sCells_one {w : World} {F : Nat → Prop} {x : ST} (h : ReadSf w F x) : ∀ a ∈ [x], ∀ u ∈ sCells a, u.oneCell' = true := by
  intro a ha u hu
  obtain rfl := List.mem_singleton.1 ha
  simp only [sCells, List.mem_cons, List.not_mem_nil, or_false] at hu
  rcases hu with rfl | rfl | rfl | rfl | rfl
  · rfl
  · rfl
  · exact h.ex.one
  · exact h.body.one
  · exact h.els.one
theorem slSf_own {w : World} {base : Nat} {F : Nat → Prop} {v : Value} {l : List ST} (h : w.ownsRow base 75 5 v l.length (flatV sCells l)) (hv : ∀ q, v.ownBlock = some q → F q) (hx : ∀ x ∈ l, ReadSf w F x) : SlSf w F v (l.map Prod.fst) := by
  rcases own_cells sCells_len h with ⟨rfl, rfl⟩ | ⟨g, cap, rfl, hg, hn, hm, hc⟩
  · exact .nil _ _
  · have hlen : (l.map Prod.fst).length = l.length := List.length_map ..
    have e : (Value.slice (some ⟨g, 0, none⟩) l.length cap) = .slice (some ⟨g, 0, none⟩) (l.map Prod.fst).length cap := by rw [hlen]
    rw [e]
    refine .row g 0 cap _ (fun j => (l[j]?.map fun x => x.2.1).getD (.bool false)) (fun j => (l[j]?.map fun x => x.2.2.1).getD (.bool false)) (fun j => (l[j]?.map fun x => x.2.2.2).getD (.bool false)) (hv g rfl) (by rw [hlen]; exact hn) hm (fun j m hj => ?_) (fun j m hj => ?_) (fun j m hj => ?_) (fun j m hj => ?_)
    all_goals
      rw [List.getElem?_map, Option.map_eq_some_iff] at hj
      obtain ⟨a, ha, rfl⟩ := hj
      have hr := hx a (List.mem_of_getElem? ha)
      rw [ha]
    · have c := hc j a ha
      rw [Nat.zero_add]
      exact ⟨⟨c 0 _ rfl, c 1 _ rfl, c 2 _ rfl, c 3 _ rfl, c 4 _ rfl⟩, hr.bd⟩
    · exact hr.ex
    · exact hr.body
    · exact hr.els
/-- a row of statements under way, its subtrees in other blocks -/
structure RowS (w : World) (qv : Value) (tr : List ST) (W : World) : Prop where
  own : W.ownsRow w.heap.size 75 5 qv tr.length (flatV sCells tr)
  sub : ∀ x ∈ tr, ReadSf W (fun b => w.heap.size ≤ b ∧ some b ≠ qv.ownBlock) x
  below : Below w.heap.size w W
section
variable {w : World} {qv : Value} {tr : List ST} {W W' : World}
theorem RowS.keep (h : RowS w qv tr W) (hb : Below W.heap.size W W') : RowS w qv tr W' :=
  ⟨own_below h.own hb, fun x hx => (h.sub x hx).move (fun b _ hlt => hb.block b hlt) (fun _ hb _ => hb), below_next h.below hb⟩
theorem RowS.app (h : RowS w qv tr W) {x : ST} {v' : Value} (hx : ReadSf W (fun b => w.heap.size ≤ b ∧ some b ≠ qv.ownBlock) x) (ho : W'.ownsRow w.heap.size 75 5 v' (tr ++ [x]).length (flatV sCells (tr ++ [x]))) (hg : W.grownBy W' qv.ownBlock) (hf : v'.ownBlock = qv.ownBlock ∨ v'.ownBlock = some W.heap.size) : RowS w v' (tr ++ [x]) W' := by
  refine ⟨ho, fun y hy => ?_, h.below.grown hg h.below.size (fun q hq => (own_ge h.own hq).1)⟩
  have hy2 : ReadSf W (fun b => w.heap.size ≤ b ∧ some b ≠ qv.ownBlock) y := by
    rcases List.mem_append.1 hy with hy | hy
    · exact h.sub y hy
    · obtain rfl := List.mem_singleton.1 hy; exact hx
  refine hy2.move (fun b hb hlt => hg.block b hlt hb.2) (fun b hb hlt => ⟨hb.1, ?_⟩)
  rcases hf with e | e
  · rw [e]; exact hb.2
  · rw [e]; intro e2; cases e2; omega
end
mutual
/-- no list in a statement is long -/
def thinS : Tr.S → Prop
  | .mk _ _ x b l => (x.length ≤ 1000000 ∧ thinEs x) ∧ (b.length ≤ 1000000 ∧ thinSs b) ∧ (l.length ≤ 1000000 ∧ thinSs l)
def thinSs : List Tr.S → Prop
  | [] => True
  | s :: r => thinS s ∧ thinSs r
end
theorem thinSs_get : ∀ {l : List Tr.S} {j : Nat} {e : Tr.S}, thinSs l → l[j]? = some e → thinS e
  | [], j, e, _, h => by simp at h
  | x :: r, 0, e, h, hj => by cases hj; rw [thinSs] at h; exact h.1
  | x :: r, j + 1, e, h, hj => by rw [thinSs] at h; exact thinSs_get (l := r) (j := j) h.2 (by simpa using hj)
theorem stmtInfo : (Tryz.prog.info? 75).map (fun i => (i.zero, i.size, i.bytes)) = some (some (.agg #[.int .i64 0, .string ⟨#[]⟩, .slice none 0 0, .slice none 0 0, .slice none 0 0]), 5, 96) := by kernel_rfl
theorem bdS_ren {f t : ByteArray} (ht : t.size ≤ maxLen) {e : Tr.S} (h : BdS e) : BdS (Ck.renS f t e) := by
  obtain ⟨k, nm, x, b, l⟩ := e
  rw [Ck.renS]
  refine ⟨h.kind, ?_⟩
  show (if (k = 0 ∨ k = 1) ∧ nm = f then t else nm).size ≤ maxLen
  split
  · exact ht
  · exact h.name
theorem renSs_snoc (f t : ByteArray) (l : List Tr.S) (x : Tr.S) : Ck.renSs f t (l ++ [x]) = Ck.renSs f t l ++ [Ck.renS f t x] := by
  induction l with
  | nil => rw [List.nil_append, Ck.renSs, Ck.renSs, Ck.renSs]; rfl
  | cons y r ih => rw [List.cons_append, Ck.renSs, Ck.renSs, ih]; rfl
end Go.Proofs.YtdafdbjdnebnfaaGreatDoor
