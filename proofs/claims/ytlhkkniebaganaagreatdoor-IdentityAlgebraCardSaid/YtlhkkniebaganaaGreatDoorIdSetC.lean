/-
  Identities: the reference's Put and Set, walked.
-/
import Derived.Test.YtlhkkniebaganaaGreatDoorIdSetB
namespace Go.Proofs.YtlhkkniebaganaaGreatDoor
open Go.RowKit

theorem put_no {l : List Id.I} {x : Id.I} : ∀ (k : Nat), k ≤ l.length → (∀ j a, j < k → l[j]? = some a → Id.lt a x) → (∀ a, l[k]? = some a → ¬ Id.lt a x ∧ a ≠ x) → Id.put l x = l.take k ++ [x] ++ l.drop k := by
  induction l with
  | nil => intro k hk _ _; obtain rfl : k = 0 := by simpa using hk
           rfl
  | cons a l ih =>
    intro k hk h1 h2
    cases k with
    | zero =>
      obtain ⟨h3, h4⟩ := h2 a rfl
      unfold Id.put
      rw [if_neg h3, if_neg h4]; rfl
    | succ k =>
      have h3 := h1 0 a (by omega) rfl
      unfold Id.put
      rw [if_pos h3, ih k (by simpa using hk) (fun j b hj hb => h1 (j + 1) b (by omega) hb) (fun b hb => h2 b hb)]
      rfl
theorem put_yes {l : List Id.I} {x : Id.I} : ∀ (k : Nat), (∀ j a, j < k → l[j]? = some a → Id.lt a x) → l[k]? = some x → Id.put l x = l := by
  induction l with
  | nil => intro k _ h; simp at h
  | cons a l ih =>
    intro k h1 h2
    cases k with
    | zero =>
      cases h2
      unfold Id.put
      rw [if_neg (Id.lt_irrefl _), if_pos rfl]
    | succ k =>
      have h3 := h1 0 a (by omega) rfl
      unfold Id.put
      rw [if_pos h3, ih k (fun j b hj hb => h1 (j + 1) b (by omega) hb) h2]

theorem IdsAt.take {w : World} {b o : Nat} {l : List Id.I} (h : IdsAt w b o l) (k : Nat) : IdsAt w b o (l.take k) := by
  intro j a hj
  refine h j a ?_
  rw [List.getElem?_take] at hj
  split at hj
  · exact hj
  · cases hj
theorem IdsAt.drop {w : World} {b o : Nat} {l : List Id.I} (h : IdsAt w b o l) (k : Nat) : IdsAt w b (o + k * 2) (l.drop k) := by
  intro j a hj
  rw [List.getElem?_drop] at hj
  have := h (k + j) a hj
  rwa [show o + (k + j) * 2 = o + k * 2 + j * 2 by omega] at this
theorem IdsAt.v {w : World} {b o n c : Nat} {l : List Id.I} (h : IdsAt w b o l) (hlt : b < w.heap.size) (hn : l.length = n) : IdsV w (.slice (some ⟨b, o, none⟩) n c) l := by
  subst hn
  by_cases e : l = []
  · subst e; exact .inl ⟨rfl, _, _, rfl⟩
  · exact .inr ⟨e, b, o, c, rfl, hlt, h⟩

/-- a slice with an address that reads as l -/
def PutV (w : World) (v : Value) (l : List Id.I) : Prop := ∃ b o c, v = .slice (some ⟨b, o, none⟩) l.length c ∧ l.length ≤ c ∧ b < w.heap.size ∧ IdsAt w b o l
theorem PutV.ids {w : World} {v : Value} {l : List Id.I} (h : PutV w v l) : IdsV w v l := by
  obtain ⟨b, o, c, rfl, _, hlt, hat⟩ := h
  exact hat.v hlt rfl
theorem PutV.keep {w w' : World} {v : Value} {l : List Id.I} (h : PutV w v l) (hb : Below w.heap.size w w') : PutV w' v l := by
  obtain ⟨b, o, c, rfl, h1, hlt, hat⟩ := h
  exact ⟨b, o, c, rfl, h1, Nat.lt_of_lt_of_le hlt hb.size, hat.keep hb hlt⟩
theorem PutV.mk' {w : World} {b o n c : Nat} {l : List Id.I} (hn : l.length = n) (hc : n ≤ c) (hlt : b < w.heap.size) (h : IdsAt w b o l) : PutV w (.slice (some ⟨b, o, none⟩) n c) l := by
  subst hn; exact ⟨b, o, c, rfl, hc, hlt, h⟩
theorem Own.putV {w : World} {base : Nat} {v : Value} {l : List Id.I} (h : Own w base v l) (hne : l ≠ []) : PutV w v l := by
  have hi := h.ids
  rcases h.2 with ⟨rfl, h0⟩ | ⟨g, cap, cur, rfl, _, hg, hn, _⟩
  · exact absurd (List.eq_nil_of_length_eq_zero h0) hne
  · rcases hi with ⟨e, _⟩ | ⟨_, b, o, c, e, hlt, hat⟩
    · exact absurd e hne
    · cases e; exact ⟨_, _, _, rfl, hn, hlt, hat⟩
theorem put_below {a b c d : Prop} {wb w : World} (h : a ∧ b ∧ c ∧ d ∧ Hid (Below wb.heap.size wb w)) : Below wb.heap.size wb w := h.2.2.2.2.out
theorem put_all {P : Prop} (h : P) : P := h
theorem put_keep {A B o : Nat} {va vb vc vd : Value} {wb w0 w' : World} (h : w0.cell? ⟨A, 0, none⟩ = some va ∧ w0.cell? ⟨A, 1, none⟩ = some vb ∧ w0.cell? ⟨B, o, none⟩ = some vc ∧ w0.cell? ⟨B, o + 1, none⟩ = some vd ∧ Hid (Below wb.heap.size wb w0)) (hb : Below w0.heap.size w0 w') :
    w'.cell? ⟨A, 0, none⟩ = some va ∧ w'.cell? ⟨A, 1, none⟩ = some vb ∧ w'.cell? ⟨B, o, none⟩ = some vc ∧ w'.cell? ⟨B, o + 1, none⟩ = some vd ∧ Hid (Below wb.heap.size wb w') :=
  ⟨id_cell_keep hb h.1, id_cell_keep hb h.2.1, id_cell_keep hb h.2.2.1, id_cell_keep hb h.2.2.2.1, Lib.hid (h.2.2.2.2.out.trans (hb.mono h.2.2.2.2.out.size))⟩

theorem step_append_ids {w : World} {ops : Array Oper} {o : Oper} {a : Act} {K : Act → World → Prop} {Q : Exit → Act → World → Prop} {E : Prop} (hgd : o.guard = none) (s x : Operand)
    (ho : o.op = .call { callee := .builtin .append, args := #[s, x], argTypes := #[22, 22] })
    (base : Nat) (v v2 : Value) (l l2 : List Id.I) (hs : a.eval s = v) (hx : a.eval x = v2) (hown : Own w base v l) (hv2 : IdsV w v2 l2) (hlen : l.length + l2.length ≤ 1000000) (hbase : base ≤ w.heap.size)
    (h : ∀ v' w', Own w' base v' (l ++ l2) → w.grownBy w' v.ownBlock → K (a.put o.dst v') w') :
    if Region.wanted o (yielded ops a.tmps) = true then Oper.wp Tryz.prog o a w K Q else E := by
  have hw : Region.wanted o (yielded ops a.tmps) = true := by simp [Region.wanted, hgd]
  rw [if_pos hw]
  exact wp_append_ids s x ho base v v2 l l2 hs hx hown hv2 hlen hbase h
theorem Own.lt' {w : World} {base : Nat} {v : Value} {l : List Id.I} (h : Own w base v l) (q : Nat) (hq : v.ownBlock = some q) : base ≤ q := (h.lt q hq).1
theorem own_at {w : World} {base g : Nat} (hg : w.heap[g]? = some (.cells #[] 24)) (hb : base ≤ g) : Own w base (.slice (some ⟨g, 0, none⟩) 0 0) [] :=
  ⟨rfl, .inr ⟨g, 0, #[], rfl, hb, hg, Nat.le_refl _, Nat.zero_le _, rfl, rfl⟩⟩
theorem one_at {w : World} {g : Nat} {x1 x2 : Int} (hg : w.heap[g]? = some (.cells #[.int .i64 x1, .int .i64 x2] 24)) : IdsV w (.slice (some ⟨g, 0, none⟩) 1 1) [(x1, x2)] := by
  refine .inr ⟨by simp, g, 0, 1, rfl, (Array.getElem?_eq_some_iff.1 hg).1, fun j a hj => ?_⟩
  cases j with
  | zero => cases hj; exact ⟨by simp [World.cell?, hg], by simp [World.cell?, hg]⟩
  | succ j => simp at hj
theorem p6_alloc {A b o : Nat} {va vb : Value} {l : List Id.I} {V w0 : World} (h : w0.cell? ⟨A, 0, none⟩ = some va ∧ w0.cell? ⟨A, 1, none⟩ = some vb ∧ Hid (IdsAt w0 b o l) ∧ Hid (b < w0.heap.size) ∧ Hid (Below V.heap.size V w0)) (ob : Obj) :
    (w0.alloc ob).cell? ⟨A, 0, none⟩ = some va ∧ (w0.alloc ob).cell? ⟨A, 1, none⟩ = some vb ∧ Hid (IdsAt (w0.alloc ob) b o l) ∧ Hid (b < (w0.alloc ob).heap.size) ∧ Hid (Below V.heap.size V (w0.alloc ob)) :=
  ⟨id_cell_keep (below_alloc _ _) h.1, id_cell_keep (below_alloc _ _) h.2.1, Lib.hid (h.2.2.1.out.keep (below_alloc _ _) h.2.2.2.1.out), Lib.hid (by have := h.2.2.2.1.out; simp; omega), Lib.hid (h.2.2.2.2.out.trans ((below_alloc _ _).mono h.2.2.2.2.out.size))⟩
theorem p6_drew {A b o : Nat} {va vb : Value} {l : List Id.I} {V w0 : World} (h : w0.cell? ⟨A, 0, none⟩ = some va ∧ w0.cell? ⟨A, 1, none⟩ = some vb ∧ Hid (IdsAt w0 b o l) ∧ Hid (b < w0.heap.size) ∧ Hid (Below V.heap.size V w0)) :
    w0.drew.cell? ⟨A, 0, none⟩ = some va ∧ w0.drew.cell? ⟨A, 1, none⟩ = some vb ∧ Hid (IdsAt w0.drew b o l) ∧ Hid (b < w0.drew.heap.size) ∧ Hid (Below V.heap.size V w0.drew) :=
  ⟨h.1, h.2.1, Lib.hid (h.2.2.1.out.keep (below_drew _) h.2.2.2.1.out), Lib.hid h.2.2.2.1.out, Lib.hid h.2.2.2.2.out.drew⟩
theorem p6_grown {A b o : Nat} {va vb : Value} {l : List Id.I} {V w0 w1 : World} {r : Option Nat} (h : w0.cell? ⟨A, 0, none⟩ = some va ∧ w0.cell? ⟨A, 1, none⟩ = some vb ∧ Hid (IdsAt w0 b o l) ∧ Hid (b < w0.heap.size) ∧ Hid (Below V.heap.size V w0)) (hg : w0.grownBy w1 r) (hA : A < V.heap.size) (hb : b < V.heap.size) (hr : ∀ q, r = some q → V.heap.size ≤ q) :
    w1.cell? ⟨A, 0, none⟩ = some va ∧ w1.cell? ⟨A, 1, none⟩ = some vb ∧ Hid (IdsAt w1 b o l) ∧ Hid (b < w1.heap.size) ∧ Hid (Below V.heap.size V w1) := by
  have hB : Below V.heap.size w0 w1 := (Below.refl _ w0).grown hg h.2.2.2.2.out.size hr
  exact ⟨(hB.cell (p := ⟨A, 0, none⟩) hA).trans h.1, (hB.cell (p := ⟨A, 1, none⟩) hA).trans h.2.1, Lib.hid (h.2.2.1.out.keep hB hb), Lib.hid (Nat.lt_of_lt_of_le h.2.2.2.1.out hg.size), Lib.hid (h.2.2.2.2.out.trans hB)⟩
theorem p6_take {A b o k n c : Nat} {va vb : Value} {l : List Id.I} {V w0 : World} (h : w0.cell? ⟨A, 0, none⟩ = some va ∧ w0.cell? ⟨A, 1, none⟩ = some vb ∧ Hid (IdsAt w0 b o l) ∧ Hid (b < w0.heap.size) ∧ Hid (Below V.heap.size V w0)) (hk : (l.take k).length = n) : IdsV w0 (.slice (some ⟨b, o, none⟩) n c) (l.take k) :=
  (h.2.2.1.out.take k).v h.2.2.2.1.out hk
theorem p6_drop {A b o k m c : Nat} {va vb : Value} {l : List Id.I} {V w0 : World} (h : w0.cell? ⟨A, 0, none⟩ = some va ∧ w0.cell? ⟨A, 1, none⟩ = some vb ∧ Hid (IdsAt w0 b o l) ∧ Hid (b < w0.heap.size) ∧ Hid (Below V.heap.size V w0)) (hk : (l.drop k).length = m) (hn : m + k ≤ c) :
    IdsV w0 (.slice (if c = k then some ⟨b, o, none⟩ else some ⟨b, o + k * 2, none⟩) m (c - k)) (l.drop k) := by
  by_cases e : c = k
  · rw [if_pos e]
    have h0 : m = 0 := by omega
    subst h0
    exact .inl ⟨List.eq_nil_of_length_eq_zero hk, _, _, rfl⟩
  · rw [if_neg e]
    exact (h.2.2.1.out.drop k).v h.2.2.2.1.out hk
theorem p6_bel {A b o : Nat} {va vb : Value} {l : List Id.I} {V w0 : World} (h : w0.cell? ⟨A, 0, none⟩ = some va ∧ w0.cell? ⟨A, 1, none⟩ = some vb ∧ Hid (IdsAt w0 b o l) ∧ Hid (b < w0.heap.size) ∧ Hid (Below V.heap.size V w0)) : Below V.heap.size V w0 := h.2.2.2.2.out
theorem p6_size {A b o : Nat} {va vb : Value} {l : List Id.I} {V w0 : World} (h : w0.cell? ⟨A, 0, none⟩ = some va ∧ w0.cell? ⟨A, 1, none⟩ = some vb ∧ Hid (IdsAt w0 b o l) ∧ Hid (b < w0.heap.size) ∧ Hid (Below V.heap.size V w0)) : V.heap.size ≤ w0.heap.size := h.2.2.2.2.out.size
theorem cmp_lt_b {a x : Id.I} (h : Id.lt a x) : decide (Id.cmp a x < 0) = true := decide_eq_true ((Id.cmp_neg a x).2 h)
theorem cmp_lt_n {a x : Id.I} (h : ¬ Id.lt a x) : decide (Id.cmp a x < 0) = false := decide_eq_false (fun e => h ((Id.cmp_neg a x).1 e))

set_option maxRecDepth 100000 in
set_option maxHeartbeats 2000000 in
theorem put_at (b o c : Nat) (l : List Id.I) (x : Id.I) (w : World) (hl : l.length ≤ 1000) (hlc : l.length ≤ c) (hlt : b < w.heap.size) (h : IdsAt w b o l) :
    Calls Tryz.prog 23 #[.slice (some ⟨b, o, none⟩) l.length c, idV x] w fun e w' => ∃ v', e = .returned v' ∧ PutV w' v' (Id.put l x) ∧ Below w.heap.size w w' := by
  obtain ⟨x1, x2⟩ := x
  have hbw := below_alloc w (.cells #[.int .i64 x1, .int .i64 x2] 24)
  obtain ⟨n0, n1, _, _⟩ := cell_new w x1 x2
  obtain ⟨n, hn⟩ : ∃ n, l.length = n := ⟨_, rfl⟩
  have H := Lib.hid (h.keep hbw hlt)
  rw [hn] at hl hlc ⊢
  have HN := Lib.hid hn
  have HB := Lib.hid hbw
  unfold idV
  clear h hn hbw
  obtain ⟨W, hW⟩ : ∃ W, W = w.alloc (.cells #[.int .i64 x1, .int .i64 x2] 24) := ⟨_, rfl⟩
  have HW := Lib.hid hW
  go_enter Tryz.func23, Tryz.ntmps23
  go_wp2
  go_loopw [5] (fun i wr => ∃ k : Nat, k ≤ n ∧ i = .int .i64 k ∧ (∀ j a, j < k → l[j]? = some a → Id.lt a (x1, x2)) ∧ Below W.heap.size W wr) (fun i _ => n - (intOf i).toNat)
  case atStart => exact ⟨0, Nat.zero_le _, rfl, fun j a hj => by omega, by rw [HW.out]; exact Below.refl _ _⟩
  case round =>
    obtain ⟨k, hk, rfl, hall, hbel⟩ := hrel
    have HS := Lib.hid hall
    have HBE := Lib.hid hbel
    have hsW : W.heap.size = w.heap.size + 1 := by rw [HW.out]; simp
    have b0 := (hbel.cell (p := ⟨w.heap.size, 0, none⟩) (by show w.heap.size < _; omega)).trans (HW.out ▸ n0)
    have b1 := (hbel.cell (p := ⟨w.heap.size, 1, none⟩) (by show w.heap.size < _; omega)).trans (HW.out ▸ n1)
    have HK := Lib.hid ((HW.out ▸ H.out : IdsAt W b o l).keep hbel (by omega))
    clear hall hbel hsW
    by_cases hlt2 : k < n
    · obtain ⟨t, ht⟩ : ∃ t, l[k]? = some t := ⟨_, List.getElem?_eq_getElem (by rw [HN.out]; exact hlt2)⟩
      obtain ⟨y0, y1⟩ := HK.out k t ht
      have HT := Lib.hid ht
      clear ht
      obtain ⟨t1, t2⟩ := t
      simp only [] at y0 y1
      have hcmp := fun w0 => compareRef_any (t1, t2) (x1, x2) w0
      unfold idV at hcmp
      simp only [] at hcmp
      obtain ⟨q, hq⟩ : ∃ q, Id.cmp (t1, t2) (x1, x2) = q := ⟨_, rfl⟩
      rw [hq] at hcmp
      have HC := Lib.hid hcmp
      have HSS := Lib.hid (show wr.cell? ⟨w.heap.size, 0, none⟩ = some (.int .i64 x1) ∧ wr.cell? ⟨w.heap.size, 1, none⟩ = some (.int .i64 x2) ∧ wr.cell? ⟨b, o + k * 2, none⟩ = some (.int .i64 t1) ∧ wr.cell? ⟨b, o + k * 2 + 1, none⟩ = some (.int .i64 t2) ∧ Hid (Below W.heap.size W wr) from ⟨b0, b1, y0, y1, HBE⟩)
      have HSD := Lib.hid (put_keep HSS.out (below_drew wr))
      by_cases e : Id.lt (t1, t2) (x1, x2)
      · have hdec := cmp_lt_b e
        rw [hq] at hdec
        have HE := Lib.hid e
        clear hq hcmp e b0 b1 y0 y1
        go_wp2_with fail
        go_region_held3 (fun w' => w'.cell? ⟨w.heap.size, 0, none⟩ = some (.int .i64 x1) ∧ w'.cell? ⟨w.heap.size, 1, none⟩ = some (.int .i64 x2) ∧ w'.cell? ⟨b, o + k * 2, none⟩ = some (.int .i64 t1) ∧ w'.cell? ⟨b, o + k * 2 + 1, none⟩ = some (.int .i64 t2) ∧ Hid (Below W.heap.size W w')) (first | exact put_keep (by assumption) hb | exact HSS.out | exact HSD.out | go_keep) (first | (go_at_call 37; refine (HC.out _).mono ?_; rintro e w' ⟨rfl, hb⟩))
        have hbf := put_below (by assumption)
        have HBF := Lib.hid hbf
        clear hbf
        go_wp2_with fail
        go_roundw
        case rel =>
          refine ⟨k + 1, by omega, by go_num, fun j a hj ha => ?_, HBF.out⟩
          by_cases e : j = k
          · rw [e, HT.out] at ha; cases ha; exact HE.out
          · exact HS.out j a (by omega) ha
        case measure => simp [intOf]; omega
      · have hdec := cmp_lt_n e
        rw [hq] at hdec
        have HE := Lib.hid e
        clear hq hcmp e b0 b1 y0 y1
        go_wp2_with fail
        go_region_held3 (fun w' => w'.cell? ⟨w.heap.size, 0, none⟩ = some (.int .i64 x1) ∧ w'.cell? ⟨w.heap.size, 1, none⟩ = some (.int .i64 x2) ∧ w'.cell? ⟨b, o + k * 2, none⟩ = some (.int .i64 t1) ∧ w'.cell? ⟨b, o + k * 2 + 1, none⟩ = some (.int .i64 t2) ∧ Hid (Below W.heap.size W w')) (first | exact put_keep (by assumption) hb | exact HSS.out | exact HSD.out | go_keep) (first | (go_at_call 37; refine (HC.out _).mono ?_; rintro e w' ⟨rfl, hb⟩))
        have hst := put_all (by assumption)
        obtain ⟨b0, b1, y0, y1, HBF⟩ := hst
        clear hb
        by_cases e : (t1, t2) = (x1, x2)
        · cases e
          have hq := fun w => id_eql_t w (x1, x2)
          simp only [] at hq
          go_wp2_with fail
          go_quiet (fail)
          clear hq
          go_wp2_with fail
          go_ret
          refine ⟨_, rfl, ?_, ?_⟩
          · rw [put_yes k (fun j a hj ha => HS.out j a hj ha) HT.out]
            exact (PutV.mk' (c := c) HN.out hlc (by have := HBF.out.size; rw [HW.out] at this; simp at this; omega) ((HW.out ▸ H.out : IdsAt W b o l).keep HBF.out (by rw [HW.out]; simp; omega))).keep (below_drewN (Below.refl _ _) _)
          · exact below_drewN (HB.out.trans ((HW.out ▸ HBF.out : Below _ (w.alloc (.cells #[.int .i64 x1, .int .i64 x2] 24)) _).mono (by simp))) _
        · have hq := fun w => id_eql_f w e
          simp only [] at hq
          clear hdec
          go_wp2_with fail
          go_quiet (fail)
          clear hq
          go_wp2_with fail
          have hbV : Below W.heap.size W (w'.drewN nq) := below_drewN HBF.out _
          have hfin := put_no (l := l) (x := (x1, x2)) k (by rw [HN.out]; exact hk) (fun j a hj ha => HS.out j a hj ha) (fun a ha => by rw [HT.out] at ha; cases ha; exact ⟨HE.out, e⟩)
          generalize w'.drewN nq = V at hbV ⊢
          have hsW : W.heap.size = w.heap.size + 1 := by rw [HW.out]; simp
          have b0 := (hbV.cell (p := ⟨w.heap.size, 0, none⟩) (by show w.heap.size < _; omega)).trans (HW.out ▸ n0)
          have b1 := (hbV.cell (p := ⟨w.heap.size, 1, none⟩) (by show w.heap.size < _; omega)).trans (HW.out ▸ n1)
          have hbl : b < V.heap.size := by have := hbV.size; omega
          have hAV : w.heap.size < V.heap.size := by have := hbV.size; omega
          have HKV := Lib.hid ((HW.out ▸ H.out : IdsAt W b o l).keep hbV (by omega))
          have HFIN := Lib.hid hfin
          have HBV := Lib.hid hbV
          clear hfin hbV e y0 y1 hsW n0 n1
          have hlk : (l.take k).length = k := by rw [List.length_take, HN.out]; omega
          have hld : (l.drop k).length = n - k := by rw [List.length_drop, HN.out]
          have HLK := Lib.hid hlk
          have HLD := Lib.hid hld
          clear hlk hld
          have q1 : (0 : Int) ≤ (k : Int) := by omega
          have q2 : (k : Int) ≤ (c : Int) := by omega
          have q3 : (k : Int) ≤ (n : Int) := by omega
          have P0 := Lib.hid (show V.cell? ⟨w.heap.size, 0, none⟩ = some (.int .i64 x1) ∧ V.cell? ⟨w.heap.size, 1, none⟩ = some (.int .i64 x2) ∧ Hid (IdsAt V b o l) ∧ Hid (b < V.heap.size) ∧ Hid (Below V.heap.size V V) from ⟨b0, b1, HKV, Lib.hid hbl, Lib.hid (Below.refl _ _)⟩)
          clear b0 b1
          go_region_held3 (fun w' => w'.cell? ⟨w.heap.size, 0, none⟩ = some (.int .i64 x1) ∧ w'.cell? ⟨w.heap.size, 1, none⟩ = some (.int .i64 x2) ∧ Hid (IdsAt w' b o l) ∧ Hid (b < w'.heap.size) ∧ Hid (Below V.heap.size V w'))
            (first | exact P0.out | exact p6_drew P0.out | exact p6_alloc P0.out _ | exact p6_drew (p6_alloc P0.out _) | exact p6_alloc (p6_drew P0.out) _ | exact p6_drew (p6_alloc (p6_alloc P0.out _) _) | exact p6_alloc (p6_drew (p6_alloc P0.out _)) _ | exact p6_alloc (p6_alloc (p6_drew P0.out) _) _ | exact p6_alloc (p6_alloc P0.out _) _ | exact p6_drew (by assumption) | exact p6_alloc (by assumption) _ | exact p6_drew (p6_alloc (by assumption) _) | exact p6_alloc (p6_drew (by assumption)) _ | exact p6_grown (by assumption) hgrow1 hAV hbl (fun q hq => by cases hq; simp) | exact p6_grown (by assumption) hgrow2 hAV hbl (fun q hq => hown1.lt' q hq) | exact p6_grown (by assumption) hgrow3 hAV hbl (fun q hq => hown2.lt' q hq) | go_keep)
            (first | ((refine step_append_ids (by rfl) _ _ (by rfl) V.heap.size _ _ _ (l.drop k) (by rfl) (by rfl) (hown2.keep (by (repeat' (first | (with_reducible exact Below.refl _ _) | (with_reducible refine Below.drew ?_) | (with_reducible refine Below.alloc ?_ ?_ _))) <;> simp)) (p6_drop (by assumption) HLD.out (by omega)) (by simp [HLK.out, HN.out]; omega) (p6_size (by assumption)) ?_); intro v3 w3 hown3 hgrow3) | ((refine step_append_ids (by rfl) _ _ (by rfl) V.heap.size _ _ _ [(x1, x2)] (by rfl) (by rfl) (hown1.keep (by (repeat' (first | (with_reducible exact Below.refl _ _) | (with_reducible refine Below.drew ?_) | (with_reducible refine Below.alloc ?_ ?_ _))) <;> simp)) (by first | exact one_at (new_block _ _) | exact one_at ((hgrow1.block _ (by first | (simp; done) | (simp; omega)) (by simp [Value.ownBlock])).trans (new_block _ _)) | exact one_at ((hgrow1.block _ (by first | (simp; done) | (simp; omega)) (by simp [Value.ownBlock])).trans (old_block _ _ _)) | exact one_at ((hgrow1.block _ (by first | (simp; done) | (simp; omega)) (by simp [Value.ownBlock])).trans (new_block2 _ _ _))) (by simp [HLK.out]; omega) (p6_size (by assumption)) ?_); intro v2 w2 hown2 hgrow2) | ((refine step_append_ids (by rfl) _ _ (by rfl) V.heap.size _ _ [] (l.take k) (by rfl) (by rfl) (own_at (by first | exact new_block _ _ | exact old_block _ _ _ | exact new_block2 _ _ _) (by simp)) (p6_take (by assumption) HLK.out) (by rw [HLK.out]; simp; omega) (p6_size (by assumption)) ?_); intro v1 w1 hown1 hgrow1))
          all_goals
            have hbf := p6_bel (by assumption)
            have h3 := hown3.putV (by simp)
            clear hgrow1 hgrow2 hgrow3
            go_wp2_with fail
            all_goals
              go_ret
              refine ⟨_, rfl, ?_, ?_⟩
              · rw [HFIN.out]; exact h3
              · exact (HB.out.trans ((HW.out ▸ HBV.out : Below _ (w.alloc (.cells #[.int .i64 x1, .int .i64 x2] 24)) V).mono (by simp))).trans (hbf.mono (by omega))
    · obtain rfl : k = n := by omega
      clear hlt2
      have hlt3 : ¬ (k : Int) < (k : Int) := by omega
      go_wp2_with fail
      go_quiet (fail)
      have hb2 : Below W.heap.size W (wr.drewN nq) := below_drewN HBE.out _
      generalize wr.drewN nq = wr2 at hb2 ⊢
      have HB2 := Lib.hid hb2
      clear hb2
      go_wp2_with fail
      go_quiet (fail)
      go_wp2_with fail
      have hbV : Below W.heap.size W (wr2.drewN nq) := below_drewN HB2.out _
      have hfin := put_no (l := l) (x := (x1, x2)) k (by rw [HN.out]; exact hk) (fun j a hj ha => HS.out j a hj ha) (fun a ha => by rw [List.getElem?_eq_none (by rw [HN.out]; exact Nat.le_refl _)] at ha; cases ha)
      generalize wr2.drewN nq = V at hbV ⊢
      have hsW : W.heap.size = w.heap.size + 1 := by rw [HW.out]; simp
      have b0 := (hbV.cell (p := ⟨w.heap.size, 0, none⟩) (by show w.heap.size < _; omega)).trans (HW.out ▸ n0)
      have b1 := (hbV.cell (p := ⟨w.heap.size, 1, none⟩) (by show w.heap.size < _; omega)).trans (HW.out ▸ n1)
      have hbl : b < V.heap.size := by have := hbV.size; omega
      have hAV : w.heap.size < V.heap.size := by have := hbV.size; omega
      have HKV := Lib.hid ((HW.out ▸ H.out : IdsAt W b o l).keep hbV (by omega))
      have HFIN := Lib.hid hfin
      have HBV := Lib.hid hbV
      clear hfin hbV hsW n0 n1
      have hlk : (l.take k).length = k := by rw [List.length_take, HN.out]; omega
      have hld : (l.drop k).length = 0 := by rw [List.length_drop, HN.out]; omega
      have HLK := Lib.hid hlk
      have HLD := Lib.hid hld
      clear hlk hld
      have q1 : (0 : Int) ≤ (k : Int) := by omega
      have q2 : (k : Int) ≤ (c : Int) := by omega
      have q3 : (k : Int) ≤ (k : Int) := by omega
      have P0 := Lib.hid (show V.cell? ⟨w.heap.size, 0, none⟩ = some (.int .i64 x1) ∧ V.cell? ⟨w.heap.size, 1, none⟩ = some (.int .i64 x2) ∧ Hid (IdsAt V b o l) ∧ Hid (b < V.heap.size) ∧ Hid (Below V.heap.size V V) from ⟨b0, b1, HKV, Lib.hid hbl, Lib.hid (Below.refl _ _)⟩)
      clear b0 b1
      go_region_held3 (fun w' => w'.cell? ⟨w.heap.size, 0, none⟩ = some (.int .i64 x1) ∧ w'.cell? ⟨w.heap.size, 1, none⟩ = some (.int .i64 x2) ∧ Hid (IdsAt w' b o l) ∧ Hid (b < w'.heap.size) ∧ Hid (Below V.heap.size V w'))
        (first | exact P0.out | exact p6_drew P0.out | exact p6_alloc P0.out _ | exact p6_drew (p6_alloc P0.out _) | exact p6_alloc (p6_drew P0.out) _ | exact p6_drew (p6_alloc (p6_alloc P0.out _) _) | exact p6_alloc (p6_drew (p6_alloc P0.out _)) _ | exact p6_alloc (p6_alloc (p6_drew P0.out) _) _ | exact p6_alloc (p6_alloc P0.out _) _ | exact p6_drew (by assumption) | exact p6_alloc (by assumption) _ | exact p6_drew (p6_alloc (by assumption) _) | exact p6_alloc (p6_drew (by assumption)) _ | exact p6_grown (by assumption) hgrow1 hAV hbl (fun q hq => by cases hq; simp) | exact p6_grown (by assumption) hgrow2 hAV hbl (fun q hq => hown1.lt' q hq) | exact p6_grown (by assumption) hgrow3 hAV hbl (fun q hq => hown2.lt' q hq) | go_keep)
        (first | ((refine step_append_ids (by rfl) _ _ (by rfl) V.heap.size _ _ _ (l.drop k) (by rfl) (by rfl) (hown2.keep (by (repeat' (first | (with_reducible exact Below.refl _ _) | (with_reducible refine Below.drew ?_) | (with_reducible refine Below.alloc ?_ ?_ _))) <;> simp)) (p6_drop (by assumption) HLD.out (by omega)) (by simp [HLK.out, HN.out]; omega) (p6_size (by assumption)) ?_); intro v3 w3 hown3 hgrow3) | ((refine step_append_ids (by rfl) _ _ (by rfl) V.heap.size _ _ _ [(x1, x2)] (by rfl) (by rfl) (hown1.keep (by (repeat' (first | (with_reducible exact Below.refl _ _) | (with_reducible refine Below.drew ?_) | (with_reducible refine Below.alloc ?_ ?_ _))) <;> simp)) (by first | exact one_at (new_block _ _) | exact one_at ((hgrow1.block _ (by first | (simp; done) | (simp; omega)) (by simp [Value.ownBlock])).trans (new_block _ _)) | exact one_at ((hgrow1.block _ (by first | (simp; done) | (simp; omega)) (by simp [Value.ownBlock])).trans (old_block _ _ _)) | exact one_at ((hgrow1.block _ (by first | (simp; done) | (simp; omega)) (by simp [Value.ownBlock])).trans (new_block2 _ _ _))) (by simp [HLK.out]; omega) (p6_size (by assumption)) ?_); intro v2 w2 hown2 hgrow2) | ((refine step_append_ids (by rfl) _ _ (by rfl) V.heap.size _ _ [] (l.take k) (by rfl) (by rfl) (own_at (by first | exact new_block _ _ | exact old_block _ _ _ | exact new_block2 _ _ _) (by simp)) (p6_take (by assumption) HLK.out) (by rw [HLK.out]; simp; omega) (p6_size (by assumption)) ?_); intro v1 w1 hown1 hgrow1))
      all_goals
        have hbf := p6_bel (by assumption)
        have h3 := hown3.putV (by simp)
        clear hgrow1 hgrow2 hgrow3
        go_wp2_with fail
        all_goals
          go_ret
          refine ⟨_, rfl, ?_, ?_⟩
          · rw [HFIN.out]; exact h3
          · exact (HB.out.trans ((HW.out ▸ HBV.out : Below _ (w.alloc (.cells #[.int .i64 x1, .int .i64 x2] 24)) V).mono (by simp))).trans (hbf.mono (by omega))
end Go.Proofs.YtlhkkniebaganaaGreatDoor
