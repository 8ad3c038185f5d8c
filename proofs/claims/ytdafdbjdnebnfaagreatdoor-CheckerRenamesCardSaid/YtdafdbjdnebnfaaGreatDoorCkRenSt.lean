/-
  The reference's RenameStmts, walked.
-/
import Derived.Test.YtdafdbjdnebnfaaGreatDoorCkRenW
namespace Go.Proofs.YtdafdbjdnebnfaaGreatDoor
open Go.RowKit Go.Maps

/-- what RenameStmts hands back -/
def RenSPost (f t : ByteArray) (l : List Tr.S) (w : World) (r : Ending) (w' : World) : Prop :=
  ∃ v', r = .returned v' ∧ SlSf w' (fun b => w.heap.size ≤ b) v' (Ck.renSs f t l) ∧ Below w.heap.size w w'

set_option maxRecDepth 100000 in
set_option maxHeartbeats 40000000 in
theorem renS_any (f t : ByteArray) (ht : t.size ≤ maxLen) : ∀ (d : Nat) (l : List Tr.S) (v : Value) (w : World), Tr.S.deep.deeps l ≤ d → l.length ≤ 1000000 → thinSs l → SlS w v l →
    Calls Tryz.prog 27 #[v, .string f, .string t] w (RenSPost f t l w) := by
  intro d
  induction d using Nat.strongRecOn with
  | ind d ih =>
    intro l v w hd hll hth hS
    obtain ⟨i0, hi0, hz0, hz1, hz2⟩ := info_parts exprInfo
    obtain ⟨i1, hi1, hy0, hy1, hy2⟩ := info_parts stmtInfo
    obtain ⟨p, c5, rfl, _⟩ := hS.form
    obtain ⟨N, hN⟩ : ∃ N, l.length = N := ⟨_, rfl⟩
    rw [hN] at hS hll ⊢
    have HS := Lib.hid hS
    have HN := Lib.hid hN
    have HD := Lib.hid hd
    have HIH := Lib.hid ih
    have HTH := Lib.hid hth
    clear hS hN hd ih hth
    by_cases h0 : N = 0
    · subst h0
      go_enter Tryz.func27, Tryz.ntmps27
      go_wp2_with fail
      go_ret
      have hl0 : l = [] := List.eq_nil_of_length_eq_zero HN.out
      subst hl0
      exact ⟨_, rfl, by rw [Ck.renSs]; exact .nil _ _, Below.refl _ _⟩
    · have h0b : ((N : Int) == 0) = false := beq_eq_false_iff_ne.2 (by omega)
      have hr0 : RowS w (.slice (some ⟨w.heap.size, 0, none⟩) 0 0) [] (w.alloc (.cells #[] 75)) := ⟨own_empty w _ 5, fun x hx => absurd hx (by simp), below_box _ _⟩
      have HR0 := Lib.hid hr0
      clear hr0 h0
      go_enter Tryz.func27, Tryz.ntmps27
      go_wp2_with fail
      go_loopg [7, 8] N (fun g s7 s8 wr => ∃ j : Nat, s8 = .int .i64 j ∧ j ≤ N ∧ g = N - j ∧ ∃ tr : List ST, Hid (tr.map Prod.fst = Ck.renSs f t (l.take j)) ∧ Hid (RowS w s7 tr wr))
      case atStart => exact ⟨0, rfl, Nat.zero_le _, rfl, [], by show _ = _; rw [List.take_zero, Ck.renSs]; rfl, HR0⟩
      case round =>
        obtain ⟨j, rfl, hj, rfl, tr, HTR, HST⟩ := hrel
        clear HR0
        have htl : tr.length = j := by
          have := congrArg List.length HTR.out
          rw [List.length_map, Ck.renSs_len, List.length_take, HN.out] at this
          omega
        obtain ⟨pq, cq, rfl⟩ := own_form HST.out.own
        rw [htl] at HST ⊢
        have HTL := Lib.hid htl
        clear htl
        by_cases hlt : j < N
        · obtain ⟨x, hx⟩ : ∃ x, l[j]? = some x := ⟨_, List.getElem?_eq_getElem (by rw [HN.out]; exact hlt)⟩
          obtain ⟨b, oo, vx, vy, vz, rfl, hblt, hc, hbd, hsx, hsy, hsz⟩ := (HS.out.keep HST.out.below).get hx
          obtain ⟨dp1, dp2, dp3⟩ := Tr.S.deep_in HD.out hx
          have hthx := thinSs_get HTH.out hx
          have hnx : Hid (Ck.renSs f t (l.take (j + 1)) = Ck.renSs f t (l.take j) ++ [Ck.renS f t x]) := by show _ = _; rw [take_get hx, renSs_snoc]
          have HBDR := Lib.hid (bdS_ren (f := f) ht hbd)
          obtain ⟨k, nm, xs, bd, el⟩ := x
          simp only [Tr.S.exprs, Tr.S.body, Tr.S.els] at hsx hsy hsz dp2 dp3
          rw [thinS] at hthx
          obtain ⟨⟨hxl, hxt⟩, ⟨hyl, hyt⟩, hzl, hzt⟩ := hthx
          obtain ⟨x0, x1, x2, x3, x4⟩ := hc
          simp only [Tr.S.kind, Tr.S.name] at x0 x1
          obtain ⟨px, cx, rfl, _⟩ := hsx.form
          obtain ⟨py, cy, rfl, _⟩ := hsy.form
          obtain ⟨pz, cz, rfl, _⟩ := hsz.form
          obtain ⟨XN, hXN⟩ : ∃ N, xs.length = N := ⟨_, rfl⟩
          obtain ⟨YN, hYN⟩ : ∃ N, bd.length = N := ⟨_, rfl⟩
          obtain ⟨ZN, hZN⟩ : ∃ N, el.length = N := ⟨_, rfl⟩
          rw [hXN] at hsx x2 hxl
          rw [hYN] at hsy x3
          rw [hZN] at hsz x4
          have hr19 := R19.made HST.out.below #[.int .i64 k, .string nm, .slice px XN cx, .slice py YN cy, .slice pz ZN cz]
          have hbx := below_box wr (.cells #[.int .i64 k, .string nm, .slice px XN cx, .slice py YN cy, .slice pz ZN cz] 75)
          obtain ⟨w4, hw4⟩ : ∃ q, q = wr.alloc (.cells #[.int .i64 k, .string nm, .slice px XN cx, .slice py YN cy, .slice pz ZN cz] 75) := ⟨_, rfl⟩
          obtain ⟨w5, hw5⟩ : ∃ q, q = w4.alloc (.cells #[] 78) := ⟨_, rfl⟩
          have hs4 : w4.heap.size = wr.heap.size + 1 := by rw [hw4]; exact World.size_alloc _ _
          obtain ⟨bx, hbx2⟩ : ∃ q, wr.heap.size = q := ⟨_, rfl⟩
          rw [← hw4] at hr19 hbx
          have hre : RowE w4 (.slice (some ⟨w4.heap.size, 0, none⟩) 0 0) [] w5 := by rw [hw5]; exact ⟨own_empty w4 _ 6, fun x hx => absurd hx (by simp), below_box _ _⟩
          rw [hs4, hbx2] at hre
          have HRE := Lib.hid hre
          have HR19 := Lib.hid hr19
          have HSX := Lib.hid (hsx.keep hbx)
          have HSY0 := Lib.hid hsy
          have HSZ0 := Lib.hid hsz
          have HB4 := Lib.hid hbx
          have HX := Lib.hid hx
          have HXN := Lib.hid hXN
          have HYN := Lib.hid hYN
          have HZN := Lib.hid hZN
          have HXT := Lib.hid hxt
          have HYT := Lib.hid hyt
          have HZT := Lib.hid hzt
          have HBX := Lib.hid hbx2
          have HS4 := Lib.hid hs4
          have HW5 : Hid (w5 = (wr.alloc (.cells #[.int .i64 k, .string nm, .slice px XN cx, .slice py YN cy, .slice pz ZN cz] 75)).alloc (.cells #[] 78)) := by show _ = _; rw [hw5, hw4]
          have b3j : (j : Int) < (N : Int) := by omega
          obtain ⟨wo, hwo⟩ : ∃ q, q = wr := ⟨_, rfl⟩
          have HWO := Lib.hid hwo
          clear hx hbd hsx hsy hsz hXN hYN hZN hw4 hw5 hr19 hre hbx hbx2 hs4 hxt hyt hzt hwo
          go_wp2_with fail
          rw [← HW5.out, HBX.out]
          rw [← HWO.out] at HST HR19 HBX HS4 HB4 HSY0 HSZ0
          clear x0 x1 x2 x3 x4 HW5 HWO
          go_loopg [10, 11] XN (fun g s10 s11 wq => ∃ i : Nat, s11 = .int .i64 i ∧ i ≤ XN ∧ g = XN - i ∧ ∃ te : List ET, Hid (te.map Prod.fst = Ck.renEs f t (xs.take i)) ∧ Hid (RowE w4 s10 te wq))
          case atStart => exact ⟨0, rfl, Nat.zero_le _, rfl, [], by show _ = _; rw [List.take_zero, Ck.renEs]; rfl, HRE⟩
          case round =>
            obtain ⟨i, rfl, hi, rfl, te, HTE, HQ⟩ := hrel
            clear HRE
            have htl : te.length = i := by
              have := congrArg List.length HTE.out
              rw [List.length_map, Ck.renEs_len, List.length_take, HXN.out] at this
              omega
            obtain ⟨pe, ce, rfl⟩ := own_form HQ.out.own
            rw [htl] at HQ ⊢
            have HTEL := Lib.hid htl
            clear htl
            have b2 := cell_keep' HQ.out.below (HBX.out ▸ HR19.out.cell (j := 2) (u := .slice px XN cx) rfl)
            by_cases hil : i < XN
            · obtain ⟨x, hx⟩ : ∃ x, xs[i]? = some x := ⟨_, List.getElem?_eq_getElem (by rw [HXN.out]; exact hil)⟩
              obtain ⟨b', o', aa, rfl, _, hc, hbdx, hsl⟩ := (HSX.out.keep HQ.out.below).get hx
              obtain ⟨x0, x1, x2, x3, x4, x5⟩ := hc
              have hcall := renE_any f t ht _ x aa wr (Nat.le_refl _) (thinEs_get HXT.out hx) hbdx hsl
              have hbdy := bdE_ren (f := f) ht hbdx
              obtain ⟨pa0, ca0, rfl, _⟩ := hsl.form
              obtain ⟨AX, hAX⟩ : ∃ N, x.args.length = N := ⟨_, rfl⟩
              rw [hAX] at hcall x5
              unfold RenPost at hcall
              rw [← renE_args] at hcall
              have hnxe : Hid (Ck.renEs f t (xs.take (i + 1)) = Ck.renEs f t (xs.take i) ++ [Ck.renE f t x]) := by show _ = _; rw [take_get hx, renEs_snoc]
              obtain ⟨y, hy⟩ : ∃ q, Ck.renE f t x = q := ⟨_, rfl⟩
              rw [hy] at hcall hbdy hnxe
              unfold exprV at hcall
              have HCALL := Lib.hid hcall
              have HBDY := Lib.hid hbdy
              have b3i : (i : Int) < (XN : Int) := by omega
              have hbelow := HQ.out.below.size
              clear hx hbdx hbdy hsl hAX hcall hy
              go_wp2_with fail
              refine HCALL.out.mono ?_
              rintro e w6 ⟨a', rfl, hsa, hb6⟩
              obtain ⟨pa, ca, rfl, _⟩ := hsa.to.form
              obtain ⟨AN, hAN⟩ : ∃ N, y.args.length = N := ⟨_, rfl⟩
              rw [hAN] at hsa ⊢
              have hbx5 := below_box w6 (.cells #[.int .i64 y.kind, .int .i64 y.op, .int .i64 y.int, .string y.name, .bool y.at_, .slice pa AN ca] 78)
              have HR5 := Lib.hid ((HQ.out.keep hb6).keep hbx5)
              have hrx : ReadEf w6 (fun b => w4.heap.size ≤ b ∧ some b ≠ Value.ownBlock (.slice pe i ce)) (y, .slice pa AN ca) := by
                refine ⟨HBDY.out, hsa.move (fun _ _ _ => rfl) (fun b hb _ => ⟨by omega, fun e => ?_⟩)⟩
                have := (HQ.out.own.lt b e.symm).2
                omega
              have HRX : Hid (ReadEf (w6.alloc (.cells #[.int .i64 y.kind, .int .i64 y.op, .int .i64 y.int, .string y.name, .bool y.at_, .slice pa AN ca] 78)) (fun b => w4.heap.size ≤ b ∧ some b ≠ Value.ownBlock (.slice pe i ce)) (y, .slice pa AN ca)) := Lib.hid ⟨hrx.1, hrx.2.move (fun b _ hlt => hbx5.block b hlt) (fun _ hb _ => hb)⟩
              have HNW : Hid (∀ q u, (eCells (y, .slice pa AN ca))[q]? = some u → (w6.alloc (.cells #[.int .i64 y.kind, .int .i64 y.op, .int .i64 y.int, .string y.name, .bool y.at_, .slice pa AN ca] 78)).cell? ((⟨w6.heap.size, 0, none⟩ : Addr).add q) = some u) := news_cells (cs := #[.int .i64 y.kind, .int .i64 y.op, .int .i64 y.int, .string y.name, .bool y.at_, .slice pa AN ca]) rfl (by simp)
              have HLB := Lib.hid (below_next HQ.out.below (below_next hb6 hbx5))
              clear hsa hb6 hAN hbx5 hrx x0 x1 x2 x3 x4 x5 b2
              go_wp2_with (at_builtin; refine wpList_append_fresh _ rfl _ _ 73 rfl w4.heap.size 78 i0 (.agg #[.int .i64 0, .int .i64 0, .int .i64 0, .string ⟨#[]⟩, .bool false, .slice none 0 0]) 6 72 Tryz.underlying73 hi0 hz0 hz1 hz2 rfl (by decide) _ _ _ rfl HR5.out.own ⟨w6.heap.size, 0, none⟩ 1 1 (eCells (y, .slice pa AN ca)) (by decide) rfl rfl HNW.out (eCells_one HRX.out _ (List.mem_singleton.2 rfl)) (by rw [HTEL.out]; unfold maxLen; omega) (by rw [HTEL.out]; omega) HLB.out.size ?_; intro v7 w7 ho7 hg7 hf7)
              go_roundg (XN - (i + 1))
              case measure => omega
              case rel =>
                refine ⟨i + 1, by go_num, by omega, rfl, te ++ [(y, .slice pa AN ca)], by show _ = _; rw [List.map_append, HTE.out, hnxe.out]; rfl, Lib.hid (HR5.out.app HRX.out ?_ hg7 hf7)⟩
                rw [List.length_append, flatV_append, flatV_cons, flatV_nil, List.append_nil]
                exact ho7
            · obtain rfl : i = XN := by omega
              have hte := HTE.out
              rw [List.take_of_length_le (by rw [HXN.out]; exact Nat.le_refl _)] at hte
              have HE : Hid (SlEf wr (fun b => wo.heap.size < b) (.slice pe i ce) (Ck.renEs f t xs)) := by
                have h1 := slEf_own (F := fun b => wo.heap.size < b) HQ.out.own (fun q hq => by have := (own_ge HQ.out.own hq).1; rw [HS4.out] at this; exact this) (fun x hx => ⟨(HQ.out.sub x hx).1, (HQ.out.sub x hx).2.move (fun _ _ _ => rfl) (fun b hb _ => by have := hb.1; rw [HS4.out] at this; exact this)⟩)
                rw [hte] at h1
                exact h1
              have HRA := Lib.hid (HR19.out.keep HQ.out.below)
              have HBA := Lib.hid (below_next HB4.out HQ.out.below)
              have g2 := HRA.out.free 2
              have b2' := HRA.out.cell (j := 2) (u := .slice px i cx) rfl
              rw [HBX.out] at g2 b2'
              clear hte b2
              go_upto_if 48 with fail
              go_cut [] (fun wx => ∃ vx : Value, Hid (R19 w wo #[.int .i64 k, .string nm, vx, .slice py YN cy, .slice pz ZN cz] wx) ∧ Hid (SlEf wx (fun b => wo.heap.size < b) vx (Ck.renEs f t xs)) ∧ Hid (Below wo.heap.size wo wx))
              case first =>
                by_cases hx0 : i = 0
                · subst hx0
                  go_wp2_with fail
                  go_meet
                  have hnil : xs = [] := List.eq_nil_of_length_eq_zero HXN.out
                  exact ⟨_, HRA, by show SlEf _ _ _ _; rw [hnil, Ck.renEs]; exact .nil _ _, HBA⟩
                · have hx1 : (0 : Int) < (i : Int) := by omega
                  go_wp2_with fail
                  go_meet
                  have hE : wr.setCell ⟨wo.heap.size, 2, none⟩ (.slice pe i ce) = wr.setCell ⟨bx, 2, none⟩ (.slice pe i ce) := by rw [HBX.out]
                  have h2 := HRA.out.set 2 (.slice pe i ce)
                  have h3 := HE.out.set19 2 (.slice pe i ce)
                  have h4 : Below wo.heap.size wo (wr.setCell ⟨wo.heap.size, 2, none⟩ (.slice pe i ce)) := HBA.out.grown (grown_setCell _ _ _ _) HBA.out.size (fun q hq => by cases hq; exact Nat.le_refl _)
                  rw [hE] at h2 h3 h4
                  exact ⟨_, h2, h3, h4⟩
              case rest =>
                obtain ⟨vx, HR2, HEX, HB2⟩ := hcut
                clear HR19 HRA HE HBA g2 b2'
                have c0 := HR2.out.cell (j := 0) (u := .int .i64 k) rfl
                have c1 := HR2.out.cell (j := 1) (u := .string nm) rfl
                rw [HBX.out] at c0 c1
                obtain ⟨wz, hwz⟩ : ∃ q, q = wc := ⟨_, rfl⟩
                rw [← hwz] at HR2 HEX HB2 c0 c1 ⊢
                clear hwz
                go_upto_region 15 with fail
                go_cut [64] (fun s64 wx => s64 = .bool (decide ((k = 0 ∨ k = 1) ∧ nm = f)) ∧ wx = wz)
                case first =>
                  cases hnm : decide (nm = f)
                  · have hq : (nm.toList == f.toList) = false := by rw [bytes_beq, hnm]
                    have hne := Lib.hid (of_decide_eq_false hnm)
                    clear hnm
                    by_cases h0 : k = 0
                    · subst h0
                      go_wp2_with fail
                      go_meet
                      exact ⟨by simp [hne.out], rfl⟩
                    · by_cases h1 : k = 1
                      · subst h1
                        go_wp2_with fail
                        go_meet
                        exact ⟨by simp [hne.out], rfl⟩
                      · have h0b : (k == 0) = false := beq_eq_false_iff_ne.2 h0
                        have h1b : (k == 1) = false := beq_eq_false_iff_ne.2 h1
                        go_wp2_with fail
                        go_meet
                        exact ⟨by simp [hne.out], rfl⟩
                  · have hq : (nm.toList == f.toList) = true := by rw [bytes_beq, hnm]
                    have heq := Lib.hid (of_decide_eq_true hnm)
                    clear hnm
                    by_cases h0 : k = 0
                    · subst h0
                      go_wp2_with fail
                      go_meet
                      exact ⟨by simp [heq.out], rfl⟩
                    · by_cases h1 : k = 1
                      · subst h1
                        go_wp2_with fail
                        go_meet
                        exact ⟨by simp [heq.out], rfl⟩
                      · have h0b : (k == 0) = false := beq_eq_false_iff_ne.2 h0
                        have h1b : (k == 1) = false := beq_eq_false_iff_ne.2 h1
                        have h2 := Lib.hid h0
                        have h3 := Lib.hid h1
                        clear h0 h1
                        go_wp2_with fail
                        go_meet
                        exact ⟨by simp [h2.out, h3.out], rfl⟩
                case rest =>
                  obtain ⟨rfl, rfl⟩ := hcut
                  have g1 := HR2.out.free 1
                  rw [HBX.out] at g1
                  clear c0
                  obtain ⟨nn, hnn⟩ : ∃ q, (if (k = 0 ∨ k = 1) ∧ nm = f then t else nm) = q := ⟨_, rfl⟩
                  have HNN := Lib.hid hnn
                  clear hnn
                  go_upto_if 64 with fail
                  go_cut [] (fun wx => Hid (R19 w wo #[.int .i64 k, .string nn, vx, .slice py YN cy, .slice pz ZN cz] wx) ∧ Hid (SlEf wx (fun b => wo.heap.size < b) vx (Ck.renEs f t xs)) ∧ Hid (Below wo.heap.size wo wx))
                  case first =>
                    cases hnm : decide ((k = 0 ∨ k = 1) ∧ nm = f)
                    · have hn := HNN.out
                      rw [if_neg (of_decide_eq_false hnm)] at hn
                      subst hn
                      go_wp2_with fail
                      go_meet
                      exact ⟨HR2, HEX, HB2⟩
                    · have hn := HNN.out
                      rw [if_pos (of_decide_eq_true hnm)] at hn
                      subst hn
                      go_wp2_with fail
                      go_meet
                      have hE : wc.setCell ⟨wo.heap.size, 1, none⟩ (.string t) = wc.setCell ⟨bx, 1, none⟩ (.string t) := by rw [HBX.out]
                      have h2 := HR2.out.set 1 (.string t)
                      have h3 := HEX.out.set19 1 (.string t)
                      have h4 : Below wo.heap.size wo (wc.setCell ⟨wo.heap.size, 1, none⟩ (.string t)) := HB2.out.grown (grown_setCell _ _ _ _) HB2.out.size (fun q hq => by cases hq; exact Nat.le_refl _)
                      rw [hE] at h2 h3 h4
                      exact ⟨h2, h3, h4⟩
                  case rest =>
                    obtain ⟨HR3, HEX3, HB3⟩ := hcut
                    obtain ⟨w20, hw20⟩ : ∃ q, q = wc := ⟨_, rfl⟩
                    rw [← hw20] at HR3 HEX3 HB3 ⊢
                    clear hw20 HR2 HEX HB2 g1 c1
                    have c3 := HR3.out.cell (j := 3) (u := .slice py YN cy) rfl
                    rw [HBX.out] at c3
                    have hcall1 := HIH.out (d - 1) (by omega) bd (.slice py YN cy) w20 dp2 hyl HYT.out (HSY0.out.keep HB3.out)
                    have HC1 := Lib.hid hcall1
                    clear hcall1
                    go_wp2_with fail
                    refine HC1.out.mono ?_
                    rintro e w6 ⟨vy', rfl, hsy', hb6⟩
                    obtain ⟨pvy, cvy, rfl, _⟩ := hsy'.to.form
                    have hly : (Ck.renSs f t bd).length = YN := by rw [Ck.renSs_len, HYN.out]
                    rw [hly] at hsy' ⊢
                    have hr4 := HR3.out.keep hb6
                    have g3 := hr4.free 3
                    have c3' := hr4.cell (j := 3) (u := .slice py YN cy) rfl
                    rw [HBX.out] at g3 c3'
                    have hE3 : w6.setCell ⟨wo.heap.size, 3, none⟩ (.slice pvy YN cvy) = w6.setCell ⟨bx, 3, none⟩ (.slice pvy YN cvy) := by rw [HBX.out]
                    have h1 := hr4.set 3 (.slice pvy YN cvy)
                    have h2 := (HEX3.out.next hb6).set19 3 (.slice pvy YN cvy)
                    have h3 := (hsy'.move (G := fun b => wo.heap.size < b) (fun _ _ _ => rfl) (fun b hb _ => Nat.lt_of_lt_of_le HR3.out.lt hb)).set19 3 (.slice pvy YN cvy)
                    have hbn := below_next HB3.out hb6
                    have h4 : Below wo.heap.size wo (w6.setCell ⟨wo.heap.size, 3, none⟩ (.slice pvy YN cvy)) := hbn.grown (grown_setCell _ _ _ _) hbn.size (fun q hq => by cases hq; exact Nat.le_refl _)
                    rw [hE3] at h1 h2 h3 h4
                    obtain ⟨w7, hw7⟩ : ∃ q, q = w6.setCell ⟨bx, 3, none⟩ (.slice pvy YN cvy) := ⟨_, rfl⟩
                    rw [← hw7] at h1 h2 h3 h4
                    have HR5 : Hid (R19 w wo #[.int .i64 k, .string nn, vx, .slice pvy YN cvy, .slice pz ZN cz] w7) := h1
                    have HEX5 := Lib.hid h2
                    have HEY5 := Lib.hid h3
                    have HB5 := Lib.hid h4
                    have HW7 := Lib.hid hw7
                    clear h1 h2 h3 h4 hr4 hbn hE3 hsy' hb6 hw7 c3 HC1 HR3 HEX3 HB3
                    have c4 := HR5.out.cell (j := 4) (u := .slice pz ZN cz) rfl
                    rw [HBX.out, HW7.out] at c4
                    have hcall2 := HIH.out (d - 1) (by omega) el (.slice pz ZN cz) w7 dp3 hzl HZT.out (HSZ0.out.keep HB5.out)
                    rw [HW7.out] at hcall2
                    have HC2 := Lib.hid hcall2
                    clear hcall2
                    go_wp2_with fail
                    refine HC2.out.mono ?_
                    rw [← HW7.out]
                    clear HW7 c4 g3 c3'
                    rintro e w8 ⟨vz', rfl, hsz', hb8⟩
                    obtain ⟨pvz, cvz, rfl, _⟩ := hsz'.to.form
                    have hlz : (Ck.renSs f t el).length = ZN := by rw [Ck.renSs_len, HZN.out]
                    rw [hlz] at hsz' ⊢
                    have hr4 := HR5.out.keep hb8
                    have g4 := hr4.free 4
                    have c4' := hr4.cell (j := 4) (u := .slice pz ZN cz) rfl
                    rw [HBX.out] at g4 c4'
                    have hE4 : w8.setCell ⟨wo.heap.size, 4, none⟩ (.slice pvz ZN cvz) = w8.setCell ⟨bx, 4, none⟩ (.slice pvz ZN cvz) := by rw [HBX.out]
                    have h1 := hr4.set 4 (.slice pvz ZN cvz)
                    have h2 := (HEX5.out.next hb8).set19 4 (.slice pvz ZN cvz)
                    have h3 := (HEY5.out.next hb8).set19 4 (.slice pvz ZN cvz)
                    have h5 := (hsz'.move (G := fun b => wo.heap.size < b) (fun _ _ _ => rfl) (fun b hb _ => Nat.lt_of_lt_of_le HR5.out.lt hb)).set19 4 (.slice pvz ZN cvz)
                    have hbn := below_next HB5.out hb8
                    have h4 : Below wo.heap.size wo (w8.setCell ⟨wo.heap.size, 4, none⟩ (.slice pvz ZN cvz)) := hbn.grown (grown_setCell _ _ _ _) hbn.size (fun q hq => by cases hq; exact Nat.le_refl _)
                    rw [hE4] at h1 h2 h3 h4 h5
                    obtain ⟨pvx, cvx, rfl, _⟩ := h2.to.form
                    have hlx : (Ck.renEs f t xs).length = i := by rw [Ck.renEs_len, HXN.out]
                    rw [hlx] at h1 h2
                    obtain ⟨w9, hw9⟩ : ∃ q, q = w8.setCell ⟨bx, 4, none⟩ (.slice pvz ZN cvz) := ⟨_, rfl⟩
                    rw [← hw9] at h1 h2 h3 h4 h5
                    have HR9 : Hid (R19 w wo #[.int .i64 k, .string nn, .slice pvx i cvx, .slice pvy YN cvy, .slice pvz ZN cvz] w9) := h1
                    have k0 := HR9.out.cell (j := 0) (u := .int .i64 k) rfl
                    have k1 := HR9.out.cell (j := 1) (u := .string nn) rfl
                    have k2 := HR9.out.cell (j := 2) (u := .slice pvx i cvx) rfl
                    have k3 := HR9.out.cell (j := 3) (u := .slice pvy YN cvy) rfl
                    have k4 := HR9.out.cell (j := 4) (u := .slice pvz ZN cvz) rfl
                    rw [HBX.out] at k0 k1 k2 k3 k4
                    have hyy : Ck.renS f t (.mk k nm xs bd el) = .mk k nn (Ck.renEs f t xs) (Ck.renSs f t bd) (Ck.renSs f t el) := by rw [Ck.renS, HNN.out]
                    have hbdy := HBDR.out
                    rw [hyy] at hbdy
                    have hrow := HR9.out.row HST.out
                    have hown := HST.out.own
                    have hge := HR9.out.le
                    have hrx : ReadSf w9 (fun b => w.heap.size ≤ b ∧ some b ≠ Value.ownBlock (.slice pq j cq)) (.mk k nn (Ck.renEs f t xs) (Ck.renSs f t bd) (Ck.renSs f t el), .slice pvx i cvx, .slice pvy YN cvy, .slice pvz ZN cvz) := by
                      have hF : ∀ b, wo.heap.size < b → b < w9.heap.size → w.heap.size ≤ b ∧ some b ≠ Value.ownBlock (.slice pq j cq) := fun b hb _ => ⟨by omega, fun e => by have := (hown.lt b e.symm).2; omega⟩
                      exact ⟨hbdy, h2.move (fun _ _ _ => rfl) hF, h3.move (fun _ _ _ => rfl) hF, h5.move (fun _ _ _ => rfl) hF⟩
                    have hbx5 := below_box w9 (.cells #[.int .i64 k, .string nn, .slice pvx i cvx, .slice pvy YN cvy, .slice pvz ZN cvz] 75)
                    have HRW := Lib.hid (hrow.keep hbx5)
                    have HRX : Hid (ReadSf (w9.alloc (.cells #[.int .i64 k, .string nn, .slice pvx i cvx, .slice pvy YN cvy, .slice pvz ZN cvz] 75)) (fun b => w.heap.size ≤ b ∧ some b ≠ Value.ownBlock (.slice pq j cq)) (.mk k nn (Ck.renEs f t xs) (Ck.renSs f t bd) (Ck.renSs f t el), .slice pvx i cvx, .slice pvy YN cvy, .slice pvz ZN cvz)) := Lib.hid (hrx.move (fun b _ hlt => hbx5.block b hlt) (fun _ hb _ => hb))
                    have HNW : Hid (∀ q u, (sCells (.mk k nn (Ck.renEs f t xs) (Ck.renSs f t bd) (Ck.renSs f t el), .slice pvx i cvx, .slice pvy YN cvy, .slice pvz ZN cvz))[q]? = some u → (w9.alloc (.cells #[.int .i64 k, .string nn, .slice pvx i cvx, .slice pvy YN cvy, .slice pvz ZN cvz] 75)).cell? ((⟨w9.heap.size, 0, none⟩ : Addr).add q) = some u) := news_cells (cs := #[.int .i64 k, .string nn, .slice pvx i cvx, .slice pvy YN cvy, .slice pvz ZN cvz]) rfl (by simp)
                    have HLB := Lib.hid (below_next HR9.out.below hbx5)
                    have HYY := Lib.hid hyy
                    have HW9 := Lib.hid hw9
                    have HS9 : Hid (w8.heap.size = w9.heap.size) := by show _ = _; rw [hw9, World.size_setCell]
                    rw [HW9.out] at k0 k1 k2 k3 k4
                    clear h1 h2 h3 h4 h5 hr4 hbn hE4 hsz' hb8 hw9 HC2 HR5 HEX5 HEY5 HB5 hyy hbdy hrow hown hge hrx hbx5
                    go_wp2_with (at_builtin; rw [HS9.out, ← HW9.out]; refine wpList_append_fresh _ rfl _ _ 39 rfl w.heap.size 75 i1 (.agg #[.int .i64 0, .string ⟨#[]⟩, .slice none 0 0, .slice none 0 0, .slice none 0 0]) 5 96 Tryz.underlying39 hi1 hy0 hy1 hy2 rfl (by decide) _ _ _ rfl HRW.out.own ⟨w9.heap.size, 0, none⟩ 1 1 (sCells (.mk k nn (Ck.renEs f t xs) (Ck.renSs f t bd) (Ck.renSs f t el), .slice pvx i cvx, .slice pvy YN cvy, .slice pvz ZN cvz)) (by decide) rfl rfl HNW.out (sCells_one HRX.out _ (List.mem_singleton.2 rfl)) (by rw [HTL.out]; unfold maxLen; omega) (by rw [HTL.out]; omega) HLB.out.size ?_; intro v10 w10 ho10 hg10 hf10)
                    go_roundg (N - (j + 1))
                    case measure => omega
                    case rel =>
                      refine ⟨j + 1, by go_num, by omega, rfl, tr ++ [(.mk k nn (Ck.renEs f t xs) (Ck.renSs f t bd) (Ck.renSs f t el), .slice pvx i cvx, .slice pvy YN cvy, .slice pvz ZN cvz)], by show _ = _; rw [List.map_append, HTR.out, hnx.out, HYY.out]; rfl, Lib.hid (HRW.out.app HRX.out ?_ hg10 hf10)⟩
                      rw [List.length_append, flatV_append, flatV_cons, flatV_nil, List.append_nil]
                      exact ho10
        · obtain rfl : j = N := by omega
          go_wp2_with fail
          go_ret
          have htr := HTR.out
          rw [List.take_of_length_le (by rw [HN.out]; exact Nat.le_refl _)] at htr
          have h1 := slSf_own (F := fun b => w.heap.size ≤ b) HST.out.own (fun q hq => (own_ge HST.out.own hq).1) (fun x hx => (HST.out.sub x hx).move (fun _ _ _ => rfl) (fun b hb _ => hb.1))
          rw [htr] at h1
          exact ⟨_, rfl, h1, HST.out.below⟩
end Go.Proofs.YtdafdbjdnebnfaaGreatDoor
