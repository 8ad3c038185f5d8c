/-
  Trees that a call builds: append that tells a new block, readings with a footprint.
-/
import Derived.Test.YtdafdbjdnebnfaaGreatDoorCkOwn
import Derived.Test.YtdafdbjdnebnfaaGreatDoorCkRename
namespace Go.Proofs.YtdafdbjdnebnfaaGreatDoor
open Go.RowKit Go.Maps

theorem run_append_fresh {P : Program} (w : World) (base : Nat) (t ty e : TypeId) (i : TypeInfo) (z : Value) (size bytes : Nat) (ht : P.underlying t = some (.slice e)) (hi : P.info? e = some i) (hz : i.zero = some z)
    (hsize : i.size = size) (hby : i.bytes = bytes)
    (v : Value) (n : Nat) (xs : List Value) (hown : w.ownsRow base e size v n xs)
    (a : Addr) (m c : Nat) (news : List Value) (hl : news.length = m * size) (hm : 0 < m) (hnews : ∀ j u, news[j]? = some u → w.cell? (a.add j) = some u) (h1 : ∀ u ∈ news, u.oneCell' = true)
    (h63 : n + m ≤ maxLen) (hbytes : (n + m) * bytes ≤ 140737488355328) (v' : Value) (w' : World) (hr : (Builtin.append_ #[t, t] ty #[v, .slice (some a) m c]).run P w = .ok v' w') :
    v'.ownBlock = v.ownBlock ∨ v'.ownBlock = some w.heap.size := by
  subst hsize
  subst hby
  have hsmall : n + m ≤ 9223372036854775807 := by simp only [maxLen] at h63; omega
  rcases hown.2 with ⟨rfl, rfl⟩ | ⟨g, cap, cur, rfl, hbg, hg, hnc, hcm, hcs, htake⟩
  · have h2 := run_append_nil (P := P) w t ty e i z ht hi hz a m c news hl hnews hm (by omega) (by have hb := hbytes; simp only [Nat.zero_add] at hb; omega)
    rw [hr] at h2
    injection h2 with h3
    subst h3
    exact .inr rfl
  · by_cases hroom : n + m ≤ cap
    · have hfit : n * i.size + news.length ≤ cur.size := by rw [hl, hcs, ← Nat.add_mul]; exact Nat.mul_le_mul_right _ hroom
      have h2 := run_append_room (P := P) w t ty e i ht hi g n cap cur hg a m c news hl hnews h1 hroom hfit
      rw [hr] at h2
      injection h2 with h3
      subst h3
      exact .inl rfl
    · have holds : ∀ j u, xs[j]? = some u → w.cell? ((⟨g, 0, none⟩ : Addr).add j) = some u := hown.cells (g := g) rfl
      have h2 := run_append_grow (P := P) w t ty e i z ht hi hz ⟨g, 0, none⟩ n cap xs hown.1 holds a m c news hl hnews (by omega) (by omega) (growslice_fits (by omega) hbytes)
      rw [hr] at h2
      injection h2 with h3
      subst h3
      exact .inr rfl
theorem wpList_append_fresh {P : Program} (w : World) {ops : Array Oper} {rest : List Oper} {o : Oper} {a : Act} {Q : Exit → Act → World → Prop} (hgd : o.guard = none) (s x : Operand) (t : TypeId)
    (ho : o.op = .call { callee := .builtin .append, args := #[s, x], argTypes := #[t, t] })
    (base : Nat) (e : TypeId) (i : TypeInfo) (z : Value) (size bytes : Nat) (ht : P.underlying t = some (.slice e)) (hi : P.info? e = some i) (hz : i.zero = some z)
    (hsize : i.size = size) (hby : i.bytes = bytes) (hzs : z.cells.size = size) (hsz : 0 < size)
    (v : Value) (n : Nat) (xs : List Value) (hs : a.eval s = v) (hown : w.ownsRow base e size v n xs)
    (ad : Addr) (m c : Nat) (news : List Value) (hm : 0 < m) (hx : a.eval x = .slice (some ad) m c) (hl : news.length = m * size) (hnews : ∀ j u, news[j]? = some u → w.cell? (ad.add j) = some u) (h1 : ∀ u ∈ news, u.oneCell' = true)
    (h63 : n + m ≤ maxLen) (hbytes : (n + m) * bytes ≤ 140737488355328) (hbase : base ≤ w.heap.size)
    (h : ∀ v' w', w'.ownsRow base e size v' (n + m) (xs ++ news) → w.grownBy w' v.ownBlock → (v'.ownBlock = v.ownBlock ∨ v'.ownBlock = some w.heap.size) → wpList P ops Q rest (a.put o.dst v') w') : wpList P ops Q (o :: rest) a w :=
  wpList_plain hgd fun K hK => by
    obtain ⟨v', w', hr, h2, h3, h4⟩ := run_append_own (P := P) w base t o.type e i z size bytes ht hi hz hsize hby hzs hsz v n xs hown ad m c news hl hnews h1 h63 hbytes hbase
    have h5 := run_append_fresh w base t o.type e i z size bytes ht hi hz hsize hby v n xs hown ad m c news hl hm hnews h1 h63 hbytes v' w' hr
    unfold Oper.wp execOp
    simp only [ho, resolve, invoke, builtin, Sem.run_bind, Sem.run_pure, Result.andThen_ok, List.map_toArray, List.map_cons, List.map_nil, hs, hx, hr]
    exact hK _ _ (h v' w' h2 h3 h5)

/-! ### readings with a footprint -/
inductive SlEf (w : World) (F : Nat → Prop) : Value → List Tr.E → Prop
  | nil (p : Option Addr) (c : Nat) : SlEf w F (.slice p 0 c) []
  | row (b o c : Nat) (l : List Tr.E) (A : Nat → Value) (hb : F b) (hn : l.length ≤ c) (hm : c ≤ maxLen) (hc : ∀ j e, l[j]? = some e → CellsE w b (o + j * 6) e (A j) ∧ BdE e)
      (ha : ∀ j e, l[j]? = some e → SlEf w F (A j) e.args) : SlEf w F (.slice (some ⟨b, o, none⟩) l.length c) l
theorem SlEf.to {w : World} {F : Nat → Prop} {v : Value} {l : List Tr.E} (h : SlEf w F v l) : SlE w v l := by
  induction h with
  | nil p c => exact .nil p c
  | row b o c l A hb hn hm hc ha ih => exact .row b o c l A hn hm hc ih
theorem SlEf.move {w w' : World} {F G : Nat → Prop} {v : Value} {l : List Tr.E} (h : SlEf w F v l) (hk : ∀ b, F b → b < w.heap.size → w'.heap[b]? = w.heap[b]?) (hF : ∀ b, F b → b < w.heap.size → G b) : SlEf w' G v l := by
  induction h with
  | nil p c => exact .nil p c
  | row b o c l A hb hn hm hc ha ih =>
    by_cases h0 : l = []
    · subst h0; exact .nil _ c
    · have hlt : b < w.heap.size := by
        cases l with
        | nil => exact absurd rfl h0
        | cons x r => exact cell_lt' (hc 0 x rfl).1.1
      have hcell : ∀ o u, w.cell? ⟨b, o, none⟩ = some u → w'.cell? ⟨b, o, none⟩ = some u := fun o u hu => by
        unfold World.cell? at hu ⊢
        rw [hk b hb hlt]; exact hu
      exact .row b o c l A (hF b hb hlt) hn hm (fun j e hj => by
        obtain ⟨⟨a1, a2, a3, a4, a5, a6⟩, hbd⟩ := hc j e hj
        exact ⟨⟨hcell _ _ a1, hcell _ _ a2, hcell _ _ a3, hcell _ _ a4, hcell _ _ a5, hcell _ _ a6⟩, hbd⟩) (fun j e hj => ih j e hj)
theorem SlEf.one {w : World} {F : Nat → Prop} {v : Value} {l : List Tr.E} (h : SlEf w F v l) : v.oneCell' = true := by cases h <;> rfl
abbrev ET := Tr.E × Value
def eCells (x : ET) : List Value := [.int .i64 x.1.kind, .int .i64 x.1.op, .int .i64 x.1.int, .string x.1.name, .bool x.1.at_, x.2]
theorem eCells_len (x : ET) : (eCells x).length = 6 := rfl
/-- an element and its arguments, all in blocks of F -/
def ReadEf (w : World) (F : Nat → Prop) (x : ET) : Prop := BdE x.1 ∧ SlEf w F x.2 x.1.args
theorem eCells_one {w : World} {F : Nat → Prop} {x : ET} (h : ReadEf w F x) : ∀ a ∈ [x], ∀ u ∈ eCells a, u.oneCell' = true := by
  intro a ha u hu
  obtain rfl := List.mem_singleton.1 ha
  simp only [eCells, List.mem_cons, List.not_mem_nil, or_false] at hu
  rcases hu with rfl | rfl | rfl | rfl | rfl | rfl
  · rfl
  · rfl
  · rfl
  · rfl
  · rfl
  · exact h.2.one
theorem slEf_own {w : World} {base : Nat} {F : Nat → Prop} {v : Value} {l : List ET} (h : w.ownsRow base 78 6 v l.length (flatV eCells l)) (hv : ∀ q, v.ownBlock = some q → F q) (hx : ∀ x ∈ l, ReadEf w F x) : SlEf w F v (l.map Prod.fst) := by
  rcases own_cells eCells_len h with ⟨rfl, rfl⟩ | ⟨g, cap, rfl, hg, hn, hm, hc⟩
  · exact .nil _ _
  · have hlen : (l.map Prod.fst).length = l.length := List.length_map ..
    have e : (Value.slice (some ⟨g, 0, none⟩) l.length cap) = .slice (some ⟨g, 0, none⟩) (l.map Prod.fst).length cap := by rw [hlen]
    rw [e]
    refine .row g 0 cap _ (fun j => (l[j]?.map Prod.snd).getD (.bool false)) (hv g rfl) (by rw [hlen]; exact hn) hm (fun j m hj => ?_) (fun j m hj => ?_)
    · rw [List.getElem?_map, Option.map_eq_some_iff] at hj
      obtain ⟨a, ha, rfl⟩ := hj
      have c := hc j a ha
      rw [ha, Nat.zero_add]
      exact ⟨⟨c 0 _ rfl, c 1 _ rfl, c 2 _ rfl, c 3 _ rfl, c 4 _ rfl, c 5 _ rfl⟩, (hx a (List.mem_of_getElem? ha)).1⟩
    · rw [List.getElem?_map, Option.map_eq_some_iff] at hj
      obtain ⟨a, ha, rfl⟩ := hj
      rw [ha]
      exact (hx a (List.mem_of_getElem? ha)).2
end Go.Proofs.YtdafdbjdnebnfaaGreatDoor
