/-
  The law IdentityBack, walked.
-/
import Derived.Test.YtlhkkniebaganaaDoorIdLawIssues
namespace Go.Proofs.YtlhkkniebaganaaDoor
open Go.RowKit

/-- the identities that are issued -/
def issued (m l : Int) (k : Nat) : List Id.I := (List.range k).map fun (j : Nat) => ((m, l + (j : Int) + 1) : Id.I)
theorem issued_succ (m l : Int) (k : Nat) : issued m l (k + 1) = issued m l k ++ [(m, l + (k : Int) + 1)] := by simp [issued, List.range_succ]
theorem issued_len (m l : Int) (k : Nat) : (issued m l k).length = k := by simp [issued]
theorem issued_get (m l : Int) {k j : Nat} (h : j < k) : (issued m l k)[j]? = some (m, l + (j : Int) + 1) := by unfold issued; rw [List.getElem?_map, List.getElem?_range h]; rfl
theorem idsCells_app (a b : List Id.I) : idsCells (a ++ b) = idsCells a ++ idsCells b := by simp [idsCells]
theorem last_q (b : Nat) (m l : Int) (w : World) (h : IssAt w b m l) : Calls Tryd.prog 18 #[.pointer (some ⟨b, 0, none⟩)] w fun e w' => e = .returned (.int .i64 l) ∧ w' = w := (last_any b m l w h).mono fun _ _ ⟨a, b⟩ => ⟨a, b.symm⟩

theorem news_cells {W : World} {h0 : Array Obj} {cs : Array Value} {t : TypeId} {b : Nat} (hW : W.heap = h0.push (.cells cs t)) (hb : b = h0.size) (j : Nat) (u : Value) (h : cs.toList[j]? = some u) :
    W.cell? ((⟨b, 0, none⟩ : Addr).add j) = some u := by
  have hadd : (⟨b, 0, none⟩ : Addr).add j = ⟨b, j, none⟩ := by unfold Addr.add; split <;> simp_all
  rw [hadd]
  unfold World.cell?
  simp [hW, hb]
  simpa using h
theorem own_ids {w : World} {base : Nat} {v : Value} {l : List Id.I} (h : w.ownsRow base 23 2 v l.length (idsCells l)) (hne : l ≠ []) : ∃ g cap, v = .slice (some ⟨g, 0, none⟩) l.length cap ∧ base ≤ g ∧ g < w.heap.size ∧ IdsAt w g 0 l := by
  have hc := h
  rcases h.2 with ⟨_, h0⟩ | ⟨g, cap, cur, rfl, hb, hg, hn, _⟩
  · exact absurd (List.eq_nil_of_length_eq_zero h0) hne
  · refine ⟨g, cap, rfl, hb, (Array.getElem?_eq_some_iff.1 hg).1, fun j a hj => ?_⟩
    obtain ⟨h0, h1⟩ := idsCells_get l j a hj
    have c0 := hc.cells (g := g) rfl _ _ h0
    have c1 := hc.cells (g := g) rfl _ _ h1
    have hadd : ∀ m, (⟨g, 0, none⟩ : Addr).add m = ⟨g, m, none⟩ := by intro m; unfold Addr.add; split <;> simp_all
    rw [hadd] at c0 c1
    rw [Nat.zero_add]
    exact ⟨c0, c1⟩

theorem IssAt.grown {w w' : World} {b : Nat} {m l : Int} {r : Option Nat} (h : IssAt w b m l) (hg : w.grownBy w' r) (hne : some b ≠ r) : IssAt w' b m l := by
  unfold IssAt at *
  rw [hg.block b (Array.getElem?_eq_some_iff.1 h).1 hne]; exact h

set_option maxRecDepth 100000 in
set_option maxHeartbeats 4000000 in
theorem back_law (mc l n back : Int) (hm0 : 0 ≤ mc) (hm1 : mc ≤ 255) (hl0 : 0 ≤ l) (hl1 : l ≤ 65535) (hn0 : 0 ≤ n) (hn1 : n ≤ 255) (w : World) (hE : IdEnv w) :
    Calls Tryd.prog 7 #[.int .u8 mc, .int .u16 l, .int .u8 n, .int .i64 back] w fun e w' => e = .returned (.bool true) ∧ Below w.heap.size w w' := by
  obtain ⟨i0, hi, hz0, hz1, hz2⟩ := info_parts idInfo
  have HA := Lib.hid (awake_any w hE)
  obtain ⟨m, hmm⟩ : ∃ m, 1 + mc % 8 = m := ⟨_, rfl⟩
  have h1 : 1 ≤ m := by omega
  have h2 : m ≤ 8 := by omega
  have HN := Lib.hid (fun w0 => newIssuer_yes m l w0 h1 h2 hl0 (by omega))
  have hm2 : 0 ≤ mc % 8 := by omega
  have hm3 : mc % 8 < 8 := by omega
  clear hE
  go_enter Tryd.func7, Tryd.ntmps7
  go_wp2_with fail
  refine HA.out.mono ?_
  rintro e w1 ⟨rfl, hb1⟩
  have s1 := hb1.size
  go_wp2_with fail
  refine (HN.out _).mono ?_
  rintro e w2 ⟨rfl, hi2, hs2, hb2⟩
  obtain ⟨B, hB⟩ : ∃ B, w1.heap.size = B := ⟨_, rfl⟩
  rw [hB] at hi2 hs2 hb2 s1 ⊢
  have HI2 := Lib.hid hi2
  have HB2 := Lib.hid (hb1.trans (hb2.mono s1))
  obtain ⟨N, hN⟩ : ∃ N : Nat, n % 20 = (N : Int) := ⟨(n % 20).toNat, by omega⟩
  have hN20 : N < 20 := by omega
  clear hi2 hb1 hb2 HA hB hmm
  go_wp2_with fail
  go_loopw [11, 12] (fun ids s wr => ∃ k : Nat, k ≤ N ∧ s = .int .i64 (k : Int) ∧ B < wr.heap.size ∧ IssAt wr B m (l + (k : Int)) ∧ wr.ownsRow (B + 1) 23 2 ids k (idsCells (issued m l k)) ∧ Below w.heap.size w wr) (fun _ s _ => N - (intOf s).toNat)
  case atStart =>
    refine ⟨0, by omega, rfl, by simp; omega, ?_, ?_, ?_⟩
    · simpa using HI2.out.keep (below_alloc _ _)
    · exact World.ownsRow_made w2 #[] 0 (by omega) (Nat.zero_le _) rfl
    · exact HB2.out.trans ((below_alloc _ _).mono HB2.out.size)
  case round =>
    obtain ⟨k, hk, rfl, hBl, hiss, hown, hbel⟩ := hrel
    have HI := Lib.hid hiss
    have HBE := Lib.hid hbel
    have hsz := hbel.size
    clear hiss hbel HI2 HB2 hs2
    by_cases hlt : k < N
    · have hNx := next_yes B m (l + (k : Int)) wr HI.out (by omega) (by omega)
      unfold idV at hNx
      have HNX := Lib.hid hNx
      clear hNx
      go_wp2_with fail
      refine HNX.out.mono ?_
      rintro e w3 ⟨rfl, hi3, hg3⟩
      have HI3 := Lib.hid hi3
      have HB3 := Lib.hid (HBE.out.grown hg3 hsz (fun q hq => by cases hq; exact s1))
      have s3 := hg3.size
      have hown3 : w3.ownsRow (B + 1) 23 2 u11 k (idsCells (issued m l k)) := hown.kept hg3 (by
        cases ho : Value.ownBlock u11 with
        | none => exact .inl rfl
        | some q =>
          right
          intro e
          cases e
          have := (hown.lt _ ho).1
          omega)
      clear hg3 hi3 HNX HI HBE hown
      go_wp2_with (at_builtin; refine wpList_append_own _ rfl _ _ 40 rfl (B + 1) 23 i0 (.agg #[.int .i64 0, .int .i64 0]) 2 16 Tryd.underlying40 hi hz0 hz1 hz2 rfl (by decide) _ _ _ rfl ((hown3.alloc _).alloc _) ⟨w3.heap.size + 1, 0, none⟩ 1 1 [.int .i64 m, .int .i64 (l + (k : Int) + 1)] rfl rfl (news_cells (cs := #[.int .i64 m, .int .i64 (l + (k : Int) + 1)]) rfl (by simp)) (by simp [Value.oneCell']) (by unfold maxLen; omega) (by omega) (by simp <;> omega) ?_; intro v' w4 hown4 hgrow _)
      have hb4 : Below w3.heap.size w3 ((w3.alloc (.cells #[.int .i64 m, .int .i64 (l + (k : Int) + 1)] 23)).alloc (.cells #[.int .i64 m, .int .i64 (l + (k : Int) + 1)] 23)) := (below_alloc _ _).trans ((below_alloc _ _).mono (by simp))
      have HI4 := Lib.hid ((HI3.out.keep hb4))
      have hgr : _ := hgrow
      have hne : some B ≠ Value.ownBlock u11 := fun e => by have := (hown3.lt _ e.symm).1; omega
      have HI5 := Lib.hid (HI4.out.grown (r := Value.ownBlock u11) hgr hne)
      have HB5 := Lib.hid ((HB3.out.trans (hb4.mono HB3.out.size)).grown (row := Value.ownBlock u11) hgr (Nat.le_trans HB3.out.size hb4.size) (fun q hq => by have := (hown3.lt _ hq).1; omega))
      have s5 := hgr.size
      have s4 := hb4.size
      clear hgrow hgr hb4 HI4 HB3 hne
      go_roundw
      case rel =>
        have e1 : l + ((k + 1 : Nat) : Int) = l + (k : Int) + 1 := by omega
        refine ⟨k + 1, by omega, by go_num, by omega, by rw [e1]; exact HI5.out, ?_, HB5.out⟩
        rw [issued_succ, idsCells_app]
        exact hown4
      case measure => simp [intOf]; omega
    · obtain rfl : k = N := by omega
      clear hlt hk
      go_wp2_with fail
      refine (last_any B m (l + (k : Int)) _ HI.out).mono ?_
      rintro e w' ⟨rfl, rfl⟩
      by_cases hbk : back < 0 ∨ l + (k : Int) < back
      · have HBN := Lib.hid (back_no B m (l + (k : Int)) back wr HI.out hbk)
        go_wp2_with fail
        refine HBN.out.mono ?_
        rintro e w' ⟨rfl, rfl⟩
        by_cases c1 : back < 0 <;> by_cases c2 : l + (k : Int) < back <;> try omega
        all_goals
          clear hbk
          go_wp2_with fail
          refine (last_any B m (l + (k : Int)) _ HI.out).mono ?_
          rintro e w' ⟨rfl, rfl⟩
          go_wp2_with fail
          go_ret
          exact ⟨by simp, HBE.out⟩
      · have c1 : 0 ≤ back := by omega
        have c2 : back ≤ l + (k : Int) := by omega
        have HBY := Lib.hid (back_yes B m (l + (k : Int)) back wr HI.out c1 c2)
        clear hbk
        go_wp2_with fail
        refine HBY.out.mono ?_
        rintro e w3 ⟨rfl, hi3, hg3⟩
        have hown3 : w3.ownsRow (B + 1) 23 2 u11 k (idsCells (issued m l k)) := hown.kept hg3 (by
          cases ho : Value.ownBlock u11 with
          | none => exact .inl rfl
          | some q =>
            right
            intro e
            cases e
            have := (hown.lt _ ho).1
            omega)
        have HI3 := Lib.hid hi3
        have HB3 := Lib.hid (HBE.out.grown hg3 hsz (fun q hq => by cases hq; exact s1))
        have hB3 : B < w3.heap.size := Nat.lt_of_lt_of_le hBl hg3.size
        clear hi3 hg3 HBY HI HBE hown
        have d1 : decide (back < 0) = false := by simp; omega
        have d2 : decide (l + (k : Int) < back) = false := by simp; omega
        go_wp2_with fail
        refine (last_any B m back _ HI3.out).mono ?_
        rintro e w' ⟨rfl, rfl⟩
        go_wp2_with fail
        have HO3 := Lib.hid hown3
        clear hown3
        go_loopg [18] (l + (k : Int) - back).toNat (fun gg _ wq => ∃ t : Int, back ≤ t ∧ t ≤ l + (k : Int) ∧ (l + (k : Int) - t).toNat ≤ gg ∧ B < wq.heap.size ∧ Hid (IssAt wq B m t) ∧ Hid (wq.ownsRow (B + 1) 23 2 u11 k (idsCells (issued m l k))) ∧ Hid (Below w.heap.size w wq))
        case atStart => exact ⟨back, by omega, c2, Nat.le_refl _, hB3, HI3, HO3, HB3⟩
        case round =>
          obtain ⟨t, ht0, ht1, hgg, hBq, HIq, HOq, HBq⟩ := hrel
          clear HI3 HO3 HB3 hB3
          by_cases g1 : t < l + (k : Int)
          · by_cases g2 : l ≤ back
            · obtain ⟨j, rfl⟩ : ∃ j : Nat, t = l + (j : Int) := ⟨(t - l).toNat, by omega⟩
              have hjk : j < k := by omega
              obtain ⟨g, cap, hu, hgB, hgs, hat⟩ := own_ids (l := issued m l k) (by rw [issued_len]; exact HOq.out) (fun e => by have := issued_len m l k; rw [e] at this; simp at this; omega)
              rw [issued_len] at hu
              have hNx := next_yes B m (l + (j : Int)) wr HIq.out (by omega) (by omega)
              unfold idV at hNx
              have HNX := Lib.hid hNx
              have hcells := hat j _ (issued_get m l hjk)
              have HU := Lib.hid hu
              clear hNx hu hat
              go_wp2_with fail
              refine (last_any B m (l + (j : Int)) _ HIq.out).mono ?_
              rintro e w' ⟨rfl, rfl⟩
              go_wp2_with fail
              refine HNX.out.mono ?_
              rintro e w4 ⟨rfl, hi4, hg4⟩
              have HI4 := Lib.hid hi4
              have hne : some g ≠ some B := fun e => by cases e; omega
              have x0 := hg4.cell hcells.1 hne
              have x1 := hg4.cell hcells.2 hne
              have s4 := hg4.size
              have hown4 : w4.ownsRow (B + 1) 23 2 u11 k (idsCells (issued m l k)) := HOq.out.kept hg4 (by
                cases ho : Value.ownBlock u11 with
                | none => exact .inl rfl
                | some q =>
                  right
                  intro e
                  cases e
                  have := (HOq.out.lt _ ho).1
                  omega)
              have HO4 := Lib.hid hown4
              have HB4 := Lib.hid (HBq.out.grown hg4 HBq.out.size (fun q hq => by cases hq; exact s1))
              clear hi4 hg4 hne hown4 hcells HOq HBq HIq HNX
              have hq := id_neq_agg m (l + (j : Int) + 1)
              rw [Nat.zero_add] at x0 x1
              go_wp2_with fail
              obtain rfl := HU.out
              have hbw := below_alloc w4 (.cells #[.int .i64 m, .int .i64 (l + (j : Int) + 1)] 23)
              have y0 := id_cell_keep hbw x0
              have y1 := id_cell_keep hbw x1
              obtain ⟨z0, z1, _, _⟩ := cell_new w4 m (l + (j : Int) + 1)
              have hws : (w4.alloc (.cells #[.int .i64 m, .int .i64 (l + (j : Int) + 1)] 23)).heap.size = w4.heap.size + 1 := by simp
              have HI5 := Lib.hid (HI4.out.keep hbw)
              have HO5 := Lib.hid (HO4.out.alloc (.cells #[.int .i64 m, .int .i64 (l + (j : Int) + 1)] 23))
              have HB5 := Lib.hid (HB4.out.trans (hbw.mono HB4.out.size))
              have hB5 : B < w4.heap.size + 1 := by omega
              have HLW : Hid (∀ q, Calls Tryd.prog 18 #[.pointer (some ⟨B, 0, none⟩)] ((w4.alloc (.cells #[.int .i64 m, .int .i64 (l + (j : Int) + 1)] 23)).drewN q) fun e w' => e = .returned (.int .i64 (l + (j : Int) + 1)) ∧ w' = (w4.alloc (.cells #[.int .i64 m, .int .i64 (l + (j : Int) + 1)] 23)).drewN q) := fun q => last_q B m (l + (j : Int) + 1) _ HI5.out
              generalize w4.alloc (.cells #[.int .i64 m, .int .i64 (l + (j : Int) + 1)] 23) = W at *
              have v1 : IntKind.i64.wrap (l + (j : Int) + 1 - l) = (j : Int) + 1 := by rw [show l + (j : Int) + 1 - l = (j : Int) + 1 by omega]; exact IntWalk.i64_in _ (by omega)
              have v2 : IntKind.i64.wrap ((j : Int) + 1 - 1) = (j : Int) := by rw [Int.add_sub_cancel]; exact IntWalk.i64_in _ (by omega)
              have v3 : IntKind.i64.wrap (j : Int) = (j : Int) := IntWalk.i64_in _ (by omega)
              have v6 : (j : Int) < (k : Int) := by omega
              go_quiet ((go_at_call 18; exact Calls.quiet_of_same (HLW.out _)))
              clear v1 v2 v3 hq
              go_wp2_with fail
              go_roundg ((l + (k : Int) - (l + (j : Int) + 1)).toNat)
              case measure => omega
              case rel => exact ⟨l + (j : Int) + 1, by omega, by omega, Nat.le_refl _, by show B < W.heap.size; omega, HI5, HO5, Lib.hid (below_drewN HB5.out _)⟩
            · go_wp2_with fail
              refine (last_any B m t _ HIq.out).mono ?_
              rintro e w' ⟨rfl, rfl⟩
              go_wp2_with fail
              go_ret
              exact ⟨rfl, HBq.out⟩
          · go_wp2_with fail
            refine (last_any B m t _ HIq.out).mono ?_
            rintro e w' ⟨rfl, rfl⟩
            go_wp2_with fail
            go_ret
            exact ⟨rfl, HBq.out⟩

theorem law_back (mc l n back : Int) (h0 : (Lit.int .u8 mc).wf = true) (h1 : (Lit.int .u16 l).wf = true) (h2 : (Lit.int .u8 n).wf = true) (w : World) (hE : IdEnv w) :
    Calls Tryd.prog 7 #[.int .u8 mc, .int .u16 l, .int .u8 n, .int .i64 back] w fun e w' => e = .returned (.bool true) ∧ Below w.heap.size w w' := by
  have e1 : IntKind.min .u8 = 0 := by decide
  have e2 : IntKind.max .u8 = 255 := by decide
  have e3 : IntKind.min .u16 = 0 := by decide
  have e4 : IntKind.max .u16 = 65535 := by decide
  simp only [Lit.wf, e1, e2, e3, e4, Bool.and_eq_true, decide_eq_true_eq] at h0 h1 h2
  exact back_law mc l n back h0.1 h0.2 h1.1 h1.2 h2.1 h2.2 w hE
end Go.Proofs.YtlhkkniebaganaaDoor
