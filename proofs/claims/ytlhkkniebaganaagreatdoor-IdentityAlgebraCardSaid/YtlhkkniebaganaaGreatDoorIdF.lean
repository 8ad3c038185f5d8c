/-
  Identities: the program's Set, walked.
-/
import Derived.Test.YtlhkkniebaganaaGreatDoorIdE
import Derived.Test.YtlhkkniebaganaaGreatDoorShelfS
namespace Go.Proofs.YtlhkkniebaganaaGreatDoor
open Go.RowKit Go.Sort

def idCells (a : Id.I) : List Value := [.int .i64 a.1, .int .i64 a.2]
def idsCells (l : List Id.I) : List Value := l.flatMap idCells
theorem idsCells_len : ∀ l : List Id.I, (idsCells l).length = l.length * 2
  | [] => rfl
  | a :: l => by
    show (idCells a ++ idsCells l).length = _
    rw [List.length_append, idsCells_len l, List.length_cons]
    show 2 + _ = _
    omega
theorem idsCells_get : ∀ (l : List Id.I) (j : Nat) (a : Id.I), l[j]? = some a → (idsCells l)[j * 2]? = some (.int .i64 a.1) ∧ (idsCells l)[j * 2 + 1]? = some (.int .i64 a.2)
  | [], j, a, h => by simp at h
  | b :: l, 0, a, h => by
    simp only [List.getElem?_cons_zero, Option.some.injEq] at h
    subst h
    exact ⟨rfl, rfl⟩
  | b :: l, j + 1, a, h => by
    simp only [List.getElem?_cons_succ] at h
    obtain ⟨h0, h1⟩ := idsCells_get l j a h
    show (idCells b ++ idsCells l)[(j + 1) * 2]? = _ ∧ (idCells b ++ idsCells l)[(j + 1) * 2 + 1]? = _
    have hl : (idCells b).length = 2 := rfl
    rw [List.getElem?_append_right (by omega), List.getElem?_append_right (by omega), hl, show (j + 1) * 2 - 2 = j * 2 by omega, show (j + 1) * 2 + 1 - 2 = j * 2 + 1 by omega]
    exact ⟨h0, h1⟩
theorem idsCells_inv (l : List Id.I) (t : Nat) (u : Value) (h : (idsCells l)[t]? = some u) : ∃ a, l[t / 2]? = some a ∧ ((t % 2 = 0 ∧ u = .int .i64 a.1) ∨ (t % 2 = 1 ∧ u = .int .i64 a.2)) := by
  have ht := (List.getElem?_eq_some_iff.1 h).1
  rw [idsCells_len] at ht
  have hj : t / 2 < l.length := by omega
  have hg := List.getElem?_eq_getElem hj
  obtain ⟨h0, h1⟩ := idsCells_get l _ _ hg
  refine ⟨_, hg, ?_⟩
  rcases Nat.mod_two_eq_zero_or_one t with e | e
  · rw [show t / 2 * 2 = t by omega, h] at h0
    exact .inl ⟨e, Option.some.inj h0⟩
  · rw [show t / 2 * 2 + 1 = t by omega, h] at h1
    exact .inr ⟨e, Option.some.inj h1⟩
theorem idsCells_one (l : List Id.I) : ∀ u ∈ idsCells l, u.oneCell' = true := by
  intro u hu
  obtain ⟨a, _, h⟩ := List.mem_flatMap.1 hu
  simp only [idCells, List.mem_cons, List.not_mem_nil, or_false] at h
  rcases h with rfl | rfl <;> rfl
/-- the cells of a row that is read -/
theorem IdsAt.all {w : World} {b o : Nat} {l : List Id.I} (h : IdsAt w b o l) (t : Nat) (u : Value) (hu : (idsCells l)[t]? = some u) : w.cell? ⟨b, o + t, none⟩ = some u := by
  obtain ⟨a, ha, hh⟩ := idsCells_inv l t u hu
  obtain ⟨h0, h1⟩ := h _ a ha
  rcases hh with ⟨e, rfl⟩ | ⟨e, rfl⟩
  · rw [show o + t / 2 * 2 = o + t by omega] at h0; exact h0
  · rw [show o + t / 2 * 2 + 1 = o + t by omega] at h1; exact h1

theorem idInfo : (Tryz.prog.info? 24).map (fun i => (i.zero, i.size, i.bytes)) = some (some (.agg #[.int .i64 0, .int .i64 0]), 2, 16) := by kernel_rfl

theorem ltOf_cmp (a b : Id.I) : Go.Proofs.ltOf Id.cmp a b = decide (Id.lt a b) := by
  unfold Go.Proofs.ltOf
  rw [Bool.eq_iff_iff, decide_eq_true_eq, decide_eq_true_eq]
  exact Id.cmp_neg a b
theorem swoId : SWO (Go.Proofs.ltOf Id.cmp) where
  irrefl x := by rw [ltOf_cmp]; exact decide_eq_false (Id.lt_irrefl x)
  trans x y z h1 h2 := by
    rw [ltOf_cmp] at *
    exact decide_eq_true (Id.lt_trans (of_decide_eq_true h1) (of_decide_eq_true h2))
  ntrans x y z h1 h2 := by
    rw [ltOf_cmp] at *
    have a := of_decide_eq_false h1
    have b := of_decide_eq_false h2
    refine decide_eq_false ?_
    unfold Id.lt at *
    omega
theorem totId (x y : Id.I) (h1 : Go.Proofs.ltOf Id.cmp x y = false) (h2 : Go.Proofs.ltOf Id.cmp y x = false) : x = y := by
  rw [ltOf_cmp] at *
  rcases Id.lt_total x y with h | h | h
  · exact absurd h (of_decide_eq_false h1)
  · exact h
  · exact absurd h (of_decide_eq_false h2)

theorem cmpLays (blk off size : Nat) (w : World) : Go.Proofs.CmpLays Tryz.prog 15 #[] idCells 2 Id.cmp blk off size w := by
  intro m os dk _ x y
  exact (compare_grow x y _).mono fun _ _ ⟨h1, h2⟩ => ⟨h1, 1, _, h2⟩

theorem holds_of {w : World} {l : List Id.I} {g : Nat} {cur : Array Value} (hg : w.heap[g]? = some (.cells cur 24)) (hc : ∀ t u, (idsCells l)[t]? = some u → w.cell? ⟨g, 0 + t, none⟩ = some u) : HoldsK idCells 2 w g 0 l.toArray := by
  intro t ht
  have ht2 : t < l.length * 2 := by simpa using ht
  rw [get_flatK _ _ _ _ (by simpa using ht2)]
  have hj : t / 2 < l.length := by omega
  have hgg := List.getElem?_eq_getElem hj
  obtain ⟨h0, h1⟩ := idsCells_get l _ _ hgg
  have he : (l.toArray)[t / 2]! = l[t / 2] := by rw [getElem!_pos l.toArray (t / 2) (by simpa using hj)]; simp
  rw [he]
  refine ⟨?_, by simp [World.frozen?, hg]⟩
  rcases Nat.mod_two_eq_zero_or_one t with e | e
  · rw [hc t _ (by rw [show t / 2 * 2 = t by omega] at h0; exact h0), e]; rfl
  · rw [hc t _ (by rw [show t / 2 * 2 + 1 = t by omega] at h1; exact h1), e]; rfl

theorem row_of_holds {w : World} {g : Nat} {d : Array Id.I} (h : HoldsK idCells 2 w g 0 d) : RowAt w g d.size fun j => d[j]! := by
  intro j hj
  obtain ⟨a0, b0⟩ := h.cell (i := j) (c := 0) hj (by omega)
  obtain ⟨a1, b1⟩ := h.cell (i := j) (c := 1) hj (by omega)
  simp only [Nat.zero_add, Nat.add_zero] at a0 a1 b0 b1
  exact ⟨a0, a1, b0, b1⟩
theorem listOf_arr (d : Array Id.I) : listOf (fun j => d[j]!) d.size = d.toList := by
  apply List.ext_getElem?
  intro j
  by_cases h : j < d.size
  · rw [listOf_get _ h, getElem!_pos d j h]; simp [h]
  · rw [List.getElem?_eq_none (by rw [listOf_len]; omega), List.getElem?_eq_none (by simpa using h)]

theorem grown_sort (w : World) (g m : Nat) (d : Array Id.I) (os : Array Obj) : w.grownBy (Go.Proofs.sortWorldK idCells 2 w g 0 m d os) (some g) := by
  refine ⟨rfl, rfl, rfl, Go.Proofs.size_sortWorldK_c _ _ w g 0 m d os, fun k hk hne => ?_⟩
  unfold Go.Proofs.sortWorldK
  rw [heap_grow_old _ _ (by rw [size_putRowK]; exact hk)]
  unfold putRowK putRow mapBlock
  simp only [Array.getElem?_modify]
  rw [if_neg (fun e => hne (by rw [e]))]
  rfl

theorem clone_ids (b o c : Nat) (l : List Id.I) (w : World) (hl : l.length ≤ 1000000) (h : IdsAt w b o l) :
    Calls Tryz.prog 20 #[.slice (some ⟨b, o, none⟩) l.length c] w fun e w' => ∃ g cap cur, e = .returned (.slice (some ⟨g, 0, none⟩) l.length cap) ∧ w'.heap[g]? = some (.cells cur 24) ∧ l.length ≤ cap ∧ HoldsK idCells 2 w' g 0 l.toArray ∧ w.heap.size ≤ g ∧ Below w.heap.size w w' := by
  obtain ⟨i0, hi, hz0, hz1, hz2⟩ := info_parts idInfo
  refine (Go.Proofs.AnyE.slices_Clone Tryz.cloneId i0 (.agg #[.int .i64 0, .int .i64 0]) 2 16 hi hz0 hz1 hz2 rfl (by omega) Tryz.sizeOf24 b o l.length c (idsCells l) w (idsCells_len l) (by unfold maxLen; omega) (by omega) (fun t u hu => h.all t u hu) (idsCells_one l)).mono ?_
  rintro e w' ⟨v', rfl, hown, hne, hb⟩
  have hcells := fun (g : Nat) (hg : _) => hown.cells (g := g) hg
  rcases hown.2 with ⟨h1, _⟩ | ⟨g, cap, cur, rfl, hge, hg, hn, _⟩
  · exact absurd h1 hne
  · refine ⟨g, cap, cur, rfl, hg, hn, holds_of hg fun t u hu => ?_, hge, hb⟩
    have := hcells g rfl t u hu
    have hadd : ∀ m, (⟨g, 0, none⟩ : Addr).add m = ⟨g, m, none⟩ := by intro m; unfold Addr.add; split <;> simp_all
    rw [hadd] at this
    rw [Nat.zero_add]; exact this
theorem sort_ids (g cap : Nat) (l : List Id.I) (w : World) (hl : l.length ≤ 1000000) (hg : g < w.heap.size) (h : HoldsK idCells 2 w g 0 l.toArray) :
    Calls Tryz.prog 21 #[.slice (some ⟨g, 0, none⟩) l.length cap, .func (.func 15) #[] #[]] w fun e w' => e = .returned (.tuple #[]) ∧ ∃ m : List Id.I, m.length = l.length ∧ m.Pairwise (fun a b => ¬ Id.lt b a) ∧ (∀ x, x ∈ m ↔ x ∈ l) ∧ RowAt w' g l.length (fun j => m.toArray[j]!) ∧ w.grownBy w' (some g) := by
  have eg : ∀ args w, (callFunc 15 args).run Tryz.prog w = .ok (.enter 15 args) w := Go.Proofs.enters_of Tryz.func15 (by kernel_rfl) rfl
  have hcon := Go.Proofs.AnyQ.slices_SortFunc_total Tryz.sortId 2 Tryz.isAgg24 Tryz.sizeOf24 idCells (fun _ => rfl) (fun x v hv => by simp [idCells] at hv; rcases hv with rfl | rfl <;> rfl) Id.cmp swoId 15 #[] g 0 cap l.toArray w eg (cmpLays g 0 _ w) h hg (by simp; omega) totId
  change Calls Tryz.prog 21 _ _ _ at hcon
  rw [show l.toArray.size = l.length by simp] at hcon
  refine hcon.mono ?_
  rintro e w' ⟨rfl, n, os, rfl⟩
  refine ⟨rfl, l.toArray.toList.mergeSort fun x y => !(Go.Proofs.ltOf Id.cmp) y x, ?_, ?_, ?_, ?_, grown_sort w g n _ os⟩
  · rw [List.length_mergeSort]
  · have := List.pairwise_mergeSort (le := fun x y => !(Go.Proofs.ltOf Id.cmp) y x) (fun a b c h1 h2 => by
      simp only [Bool.not_eq_true', ltOf_cmp, decide_eq_false_iff_not] at *
      unfold Id.lt at *; omega) (fun a b => by
      simp only [ltOf_cmp, Bool.or_eq_true, Bool.not_eq_true', decide_eq_false_iff_not]
      unfold Id.lt; omega) l.toArray.toList
    refine this.imp ?_
    intro a b hab
    simp only [Bool.not_eq_true', ltOf_cmp, decide_eq_false_iff_not] at hab
    exact hab
  · intro x
    rw [List.mem_mergeSort]
  · have hh := Go.Proofs.holdsK_sortWorldK_c idCells 2 w g 0 l.toArray (l.toArray.toList.mergeSort fun x y => !(Go.Proofs.ltOf Id.cmp) y x).toArray n os h hg (by simp)
    have hr := row_of_holds hh
    have hsz : (l.toArray.toList.mergeSort fun x y => !(Go.Proofs.ltOf Id.cmp) y x).toArray.size = l.length := by simp
    rw [hsz] at hr
    exact hr

theorem ids_keep_grown {w w' : World} {b o : Nat} {l : List Id.I} {r : Nat} (h : IdsAt w b o l) (hg : w.grownBy w' (some r)) (hne : b ≠ r) : IdsAt w' b o l := by
  intro j a hj
  obtain ⟨h0, h1⟩ := h j a hj
  exact ⟨hg.cell h0 (by simpa using hne), hg.cell h1 (by simpa using hne)⟩

theorem ret_slice {a : Option Addr} {n m c : Nat} (h : n = m) : Ending.returned (.slice a n c) = .returned (.slice a m c) := by rw [h]

set_option maxRecDepth 100000 in
set_option maxHeartbeats 1000000 in
theorem set_some (b o c : Nat) (l : List Id.I) (w : World) (hl : l.length ≤ 1000000) (h : IdsAt w b o l) :
    Calls Tryz.prog 7 #[.slice (some ⟨b, o, none⟩) l.length c] w fun e w' => ∃ g cap, e = .returned (.slice (some ⟨g, 0, none⟩) (Id.setL l).length cap) ∧ (Id.setL l).length ≤ cap ∧ w.heap.size ≤ g ∧ g < w'.heap.size ∧ IdsAt w' g 0 (Id.setL l) ∧ Below w.heap.size w w' ∧ Fz w' g (Id.setL l).length := by
  have hC := Lib.hid (clone_ids b o c l w hl h)
  obtain ⟨n, hn⟩ : ∃ n, l.length = n := ⟨_, rfl⟩
  rw [hn] at hl hC ⊢
  have HN := Lib.hid hn
  clear h hn
  go_enter Tryz.func7, Tryz.ntmps7
  go_wp2_with fail
  refine hC.out.mono ?_
  rintro e w1 ⟨g, cap, cur, rfl, hgh, hcap, hH, hge, hb1⟩
  have hg1 := (Array.getElem?_eq_some_iff.1 hgh).1
  have hS := sort_ids g cap l w1 (by rw [HN.out]; exact hl) hg1 hH
  rw [HN.out] at hS
  have HS := Lib.hid hS
  clear hS hH hgh hC
  go_wp2_with fail
  refine HS.out.mono ?_
  rintro e w2 ⟨rfl, m, hml, hmp, hmm, hrow, hgr⟩
  have HML := Lib.hid hml
  have HMP := Lib.hid hmp
  have HMM := Lib.hid hmm
  have HG := Lib.hid hgr
  have HR := Lib.hid hrow
  have s2 := hgr.size
  clear hml hmp hmm hgr hrow HS
  go_wp2_with fail
  have hu : Id.uniq m = Id.setL l := Id.uniq_setL HMP.out HMM.out
  have hlo : listOf (fun j => m.toArray[j]!) n = m := by
    have := listOf_arr m.toArray
    rw [show m.toArray.size = n by simp [HML.out]] at this
    simpa using this
  by_cases h2 : n < 2
  · refine (compact_short _ _ _ _ h2).mono ?_
    rintro e w3 ⟨rfl, rfl⟩
    go_wp2_with fail
    go_ret
    have hml1 := HML.out
    have hm1 : Id.uniq m = m := by
      match m, hml1 with
      | [], _ => rfl
      | [a], _ => rfl
      | a :: b :: r, h => simp at h; omega
    rw [hm1] at hu
    refine ⟨g, cap, ret_slice (by rw [← hu, HML.out]), by rw [← hu, HML.out]; exact hcap, hge, by omega, ?_, hb1.grown HG.out hb1.size (fun k hk => by cases hk; exact hge), ?_⟩
    rotate_left
    · have := HR.out.fz
      rwa [← hu, HML.out]
    have := HR.out.cleared (k := n) (Nat.le_refl _) []
    rw [hlo] at this
    rw [← hu]
    exact this
  · refine (compact_any g n cap _ w2 (by omega) hl hcap HR.out).mono ?_
    rintro e w3 ⟨rfl, hat, hgr3, hfz⟩
    rw [hlo] at hat ⊢
    have hat := Lib.hid hat
    have HG3 := Lib.hid hgr3
    have s3 := hgr3.size
    clear hgr3
    go_wp2_with fail
    go_ret
    have hat := hat.out
    rw [hu] at hat
    refine ⟨g, cap, ret_slice rfl, ?_, hge, by omega, hat, (hb1.grown HG.out hb1.size (fun k hk => by cases hk; exact hge)).grown HG3.out (by have := hb1.size; omega) (fun k hk => by cases hk; exact hge), fun j hj => hfz j ?_⟩
    all_goals
      have := Id.setL_len l
      rw [HN.out] at this
      omega
end Go.Proofs.YtlhkkniebaganaaGreatDoor
