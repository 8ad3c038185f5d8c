/-
  Identities: slices of them that a function owns: appends, empty ones, and the program's Set of whatever list.
-/
import Derived.Test.YtlhkkniebaganaaGreatDoorIdJ
import Derived.Laws.Append
import Derived.Laws.AppendOwn
import Derived.Laws.OwnMore
namespace Go.Proofs.YtlhkkniebaganaaGreatDoor
open Go.RowKit

theorem own_below {w w' : World} {base : Nat} {e : TypeId} {size : Nat} {v : Value} {n : Nat} {xs : List Value} (h : w.ownsRow base e size v n xs) (hb : Below w.heap.size w w') : w'.ownsRow base e size v n xs :=
  h.kept (grown_below (r := none) hb) (by cases v.ownBlock <;> simp)
theorem grown_refl (w : World) (r : Option Nat) : w.grownBy w r := ⟨rfl, rfl, rfl, Nat.le_refl _, fun _ _ _ => rfl⟩
/-- v is a row that the walk owns, and reads as l -/
def Own (w : World) (base : Nat) (v : Value) (l : List Id.I) : Prop := w.ownsRow base 24 2 v l.length (idsCells l)
theorem idsCells_app (a b : List Id.I) : idsCells (a ++ b) = idsCells a ++ idsCells b := by unfold idsCells; rw [List.flatMap_append]
theorem Own.keep {w w' : World} {base : Nat} {v : Value} {l : List Id.I} (h : Own w base v l) (hb : Below w.heap.size w w') : Own w' base v l := own_below h hb
theorem addr0 (g m : Nat) : (⟨g, 0, none⟩ : Addr).add m = ⟨g, m, none⟩ := by unfold Addr.add; split <;> simp_all
theorem addrO (g o m : Nat) : (⟨g, o, none⟩ : Addr).add m = ⟨g, o + m, none⟩ := by unfold Addr.add; split <;> simp_all
theorem Own.ids {w : World} {base : Nat} {v : Value} {l : List Id.I} (h : Own w base v l) : IdsV w v l := by
  rcases h.2 with ⟨rfl, h0⟩ | ⟨g, cap, cur, rfl, _, hg, _⟩
  · exact .inl ⟨List.eq_nil_of_length_eq_zero h0, _, _, rfl⟩
  · by_cases hl : l = []
    · subst hl; exact .inl ⟨rfl, _, _, rfl⟩
    · refine .inr ⟨hl, g, 0, cap, rfl, (Array.getElem?_eq_some_iff.1 hg).1, fun j a hj => ?_⟩
      have hc := h.cells (g := g) rfl
      obtain ⟨h0, h1⟩ := idsCells_get l j a hj
      have a0 := hc _ _ h0
      have a1 := hc _ _ h1
      rw [addr0] at a0 a1
      rw [Nat.zero_add]
      exact ⟨a0, a1⟩
theorem Own.nil (w : World) (base : Nat) : Own w base (.slice none 0 0) [] := w.ownsRow_nil _ _ _

theorem run_append_nilsrc (base : Nat) (t ty e : TypeId) (i : TypeInfo) (size : Nat) (P : Program) (w : World) (ht : P.underlying t = some (.slice e)) (hi : P.info? e = some i)
    (v : Value) (n c : Nat) (xs : List Value) (hown : w.ownsRow base e size v n xs) :
    (Builtin.append_ #[t, t] ty #[v, .slice none 0 c]).run P w = .ok v w := by
  rcases hown.2 with ⟨rfl, rfl⟩ | ⟨g, cap, cur, rfl, _, _, hn, _⟩
  · simp [Builtin.append_, run_underlying ht, sizeOf, typeInfo, hi, Builtin.lenOf, Builtin.firstCells]
  · simp [Builtin.append_, run_underlying ht, sizeOf, typeInfo, hi, Builtin.lenOf, Builtin.firstCells, hn, storeCells]

theorem run_append_ids (base : Nat) (ty : TypeId) (w : World) (v v2 : Value) (l l2 : List Id.I) (hown : Own w base v l) (hx : IdsV w v2 l2) (hlen : l.length + l2.length ≤ 1000000) (hbase : base ≤ w.heap.size) :
    ∃ v' w', (Builtin.append_ #[22, 22] ty #[v, v2]).run Tryz.prog w = .ok v' w' ∧ Own w' base v' (l ++ l2) ∧ w.grownBy w' v.ownBlock := by
  obtain ⟨i0, hi, hz0, hz1, hz2⟩ := info_parts idInfo
  have key : ∀ (ad : Addr) (c : Nat), v2 = .slice (some ad) l2.length c → (∀ j u, (idsCells l2)[j]? = some u → w.cell? (ad.add j) = some u) → ∃ v' w', (Builtin.append_ #[22, 22] ty #[v, v2]).run Tryz.prog w = .ok v' w' ∧ Own w' base v' (l ++ l2) ∧ w.grownBy w' v.ownBlock := by
    intro ad c e hc
    subst e
    obtain ⟨v', w', h1, h2, h3, _⟩ := run_append_own (P := Tryz.prog) (w := w) base 22 ty 24 i0 (.agg #[.int .i64 0, .int .i64 0]) 2 16 Tryz.underlying22 hi hz0 hz1 hz2 rfl (by decide) v l.length (idsCells l) hown ad l2.length c (idsCells l2) (idsCells_len l2) hc (idsCells_one l2) (by unfold maxLen; omega) (by omega) hbase
    refine ⟨v', w', h1, ?_, h3⟩
    unfold Own
    rw [List.length_append, idsCells_app]
    exact h2
  rcases hx with ⟨rfl, p, c, rfl⟩ | ⟨hne, b, o, c, rfl, hlt, hat⟩
  · cases p with
    | none => exact ⟨v, w, run_append_nilsrc base 22 ty 24 i0 2 Tryz.prog w Tryz.underlying22 hi v _ c _ hown, by rw [List.append_nil]; exact hown, grown_refl w _⟩
    | some ad => exact key ad c rfl (fun j u h => by simp [idsCells] at h)
  · exact key ⟨b, o, none⟩ c rfl fun j u h => by rw [addrO]; exact hat.all j u h

theorem wp_append_ids {w : World} {o : Oper} {a : Act} {K : Act → World → Prop} {Q : Exit → Act → World → Prop} (s x : Operand)
    (ho : o.op = .call { callee := .builtin .append, args := #[s, x], argTypes := #[22, 22] })
    (base : Nat) (v v2 : Value) (l l2 : List Id.I) (hs : a.eval s = v) (hx : a.eval x = v2) (hown : Own w base v l) (hv2 : IdsV w v2 l2) (hlen : l.length + l2.length ≤ 1000000) (hbase : base ≤ w.heap.size)
    (h : ∀ v' w', Own w' base v' (l ++ l2) → w.grownBy w' v.ownBlock → K (a.put o.dst v') w') : o.wp Tryz.prog a w K Q := by
  obtain ⟨v', w', hr, h1, h2⟩ := run_append_ids base o.type w v v2 l l2 hown hv2 hlen hbase
  unfold Oper.wp execOp
  simp only [ho, resolve, invoke, builtin, Sem.run_bind, Sem.run_pure, Result.andThen_ok, List.map_toArray, List.map_cons, List.map_nil, hs, hx, hr]
  exact h v' w' h1 h2
theorem wpList_append_ids {w : World} {ops : Array Oper} {rest : List Oper} {o : Oper} {a : Act} {Q : Exit → Act → World → Prop} (hgd : o.guard = none) (s x : Operand)
    (ho : o.op = .call { callee := .builtin .append, args := #[s, x], argTypes := #[22, 22] })
    (base : Nat) (v v2 : Value) (l l2 : List Id.I) (hs : a.eval s = v) (hx : a.eval x = v2) (hown : Own w base v l) (hv2 : IdsV w v2 l2) (hlen : l.length + l2.length ≤ 1000000) (hbase : base ≤ w.heap.size)
    (h : ∀ v' w', Own w' base v' (l ++ l2) → w.grownBy w' v.ownBlock → wpList Tryz.prog ops Q rest (a.put o.dst v') w') : wpList Tryz.prog ops Q (o :: rest) a w :=
  wpList_plain hgd fun _ hK => wp_append_ids s x ho base v v2 l l2 hs hx hown hv2 hlen hbase fun v' w' h1 h2 => hK _ _ (h v' w' h1 h2)

theorem own_made (w : World) : Own (w.alloc (.cells #[] 24)) w.heap.size (.slice (some ⟨w.heap.size, 0, none⟩) 0 0) [] :=
  World.ownsRow_lit w #[] 0 (Nat.le_refl _) (Nat.zero_le _) rfl
theorem Own.shape {w : World} {base : Nat} {v : Value} {l : List Id.I} (h : Own w base v l) : ∃ q c, v = .slice q l.length c := by
  rcases h.2 with ⟨rfl, h0⟩ | ⟨g, cap, cur, rfl, _⟩
  · exact ⟨_, _, by rw [h0]⟩
  · exact ⟨_, _, rfl⟩
set_option maxRecDepth 100000 in
set_option maxHeartbeats 1000000 in
theorem clone_empty (p : Option Addr) (c : Nat) (w : World) :
    Calls Tryz.prog 20 #[.slice p 0 c] w fun e w' => (∃ q c, e = .returned (.slice q 0 c)) ∧ Below w.heap.size w w' := by
  cases p with
  | none =>
    have hC := Go.Proofs.AnyE.slices_Clone_nil Tryz.cloneId 0 c w
    change Calls Tryz.prog 20 _ _ _ at hC
    exact hC.mono fun e w' ⟨h1, h2⟩ => ⟨⟨_, _, h1⟩, h2 ▸ Below.refl _ _⟩
  | some ad =>
    have q22 : ∀ (w : World), (binOp .eql 22 (.slice (some ad) 0 c) (.slice none 0 0)).run Tryz.prog w = .ok (.bool false) w := fun w => Lib.run_eql_slice_nil w _ _ (some ad) 0 c 0 0 Tryz.underlying22
    have hown := own_made w
    have hsrc : IdsV (w.alloc (.cells #[] 24)) (.slice (some ad) 0 c) [] := .inl ⟨rfl, _, _, rfl⟩
    go_enter Tryz.func20, Tryz.ntmps20
    go_wp2_with (at_builtin; refine wpList_append_ids rfl _ _ rfl w.heap.size _ _ [] [] rfl rfl hown hsrc (by simp) (by simp) ?_; intro v' w' hown2 hgrow)
    obtain ⟨q, c2, rfl⟩ := hown2.shape
    go_wp2_with fail
    go_ret
    exact ⟨⟨_, _, rfl⟩, (below_alloc _ _).grown hgrow (by simp) (fun k hk => by cases hk; exact Nat.le_refl _)⟩
set_option maxRecDepth 100000 in
set_option maxHeartbeats 1000000 in
theorem set_empty (p : Option Addr) (c : Nat) (w : World) :
    Calls Tryz.prog 7 #[.slice p 0 c] w fun e w' => (∃ q c, e = .returned (.slice q 0 c)) ∧ Below w.heap.size w w' := by
  have hS := fun p c w => Go.Proofs.AnyF.slices_SortFunc_none Tryz.sortId p c (.func (.func 15) #[] #[]) w
  change ∀ p c w, Calls Tryz.prog 21 _ _ _ at hS
  have HS := Lib.hid hS
  clear hS
  go_enter Tryz.func7, Tryz.ntmps7
  go_wp2_with fail
  refine (clone_empty p c w).mono ?_
  rintro e w1 ⟨⟨q, c2, rfl⟩, hb⟩
  go_wp2_with fail
  refine (HS.out _ _ _).mono ?_
  rintro e w2 ⟨rfl, rfl⟩
  go_wp2_with fail
  refine (compact_short _ _ _ _ (by omega)).mono ?_
  rintro e w3 ⟨rfl, rfl⟩
  go_wp2_with fail
  go_ret
  exact ⟨⟨_, _, rfl⟩, hb⟩

/-- a row in a block of its own that may be written, or nil -/
def Fresh (w : World) (base : Nat) (v : Value) (l : List Id.I) : Prop :=
  (l = [] ∧ ∃ p c, v = .slice p 0 c) ∨ ∃ g cap, v = .slice (some ⟨g, 0, none⟩) l.length cap ∧ l.length ≤ cap ∧ base ≤ g ∧ g < w.heap.size ∧ IdsAt w g 0 l ∧ Fz w g l.length
theorem Fresh.ids {w : World} {base : Nat} {v : Value} {l : List Id.I} (h : Fresh w base v l) : IdsV w v l := by
  rcases h with ⟨rfl, p, c, rfl⟩ | ⟨g, cap, rfl, _, _, hlt, hat, _⟩
  · exact .inl ⟨rfl, p, c, rfl⟩
  · by_cases hl : l = []
    · subst hl; exact .inl ⟨rfl, _, _, rfl⟩
    · exact .inr ⟨hl, g, 0, cap, rfl, hlt, hat⟩
theorem set_v (v : Value) (l : List Id.I) (w : World) (hl : l.length ≤ 1000000) (h : IdsV w v l) :
    Calls Tryz.prog 7 #[v] w fun e w' => ∃ v', e = .returned v' ∧ Fresh w' w.heap.size v' (Id.setL l) ∧ Below w.heap.size w w' := by
  have key : ∀ b o c, v = .slice (some ⟨b, o, none⟩) l.length c → IdsAt w b o l → Calls Tryz.prog 7 #[v] w fun e w' => ∃ v', e = .returned v' ∧ Fresh w' w.heap.size v' (Id.setL l) ∧ Below w.heap.size w w' := by
    intro b o c e hat
    subst e
    refine (set_some b o c l w hl hat).mono ?_
    rintro e w' ⟨g, cap, rfl, h1, h2, h3, h4, h5, h6⟩
    exact ⟨_, rfl, .inr ⟨g, cap, rfl, h1, h2, h3, h4, h6⟩, h5⟩
  rcases h with ⟨rfl, p, c, rfl⟩ | ⟨hne, b, o, c, rfl, hlt, hat⟩
  · refine (set_empty p c w).mono ?_
    rintro e w' ⟨⟨q, c2, rfl⟩, hb⟩
    exact ⟨_, rfl, .inl ⟨rfl, _, _, rfl⟩, hb⟩
  · exact key b o c rfl hat
end Go.Proofs.YtlhkkniebaganaaGreatDoor
