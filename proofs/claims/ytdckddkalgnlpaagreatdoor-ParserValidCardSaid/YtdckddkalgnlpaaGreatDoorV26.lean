/-
  Several texts in one: SyStmt, SyClassA, SyClassB.
-/
import Derived.Test.YtdckddkalgnlpaaGreatDoorV25
namespace Go.Proofs.YtdckddkalgnlpaaGreatDoor
open Go.RowKit Go.Maps
def headD3 : DataW Unit := .lit (.string (⟨#[105, 102, 32]⟩ : ByteArray).data.toList)
def headD4 : DataW Unit := .lit (.string (⟨#[119, 104, 105, 108, 101, 32]⟩ : ByteArray).data.toList)
def headM : DataW Unit := ((DataW.map []).put (.int .i64 3) headD3).put (.int .i64 4) headD4
theorem keyInt : Keyed Tryz.prog 3 := int_keyed Tryz.underlying3
theorem keyOfInt (n : Int) (h0 : -9223372036854775808 ≤ n) (h1 : n ≤ 9223372036854775807) : keyOf Tryz.prog 3 (.int .i64 n) = some (.int .i64 n) := keyOf_int_mk Tryz.underlying3 (by simp [Lit.wf, IntKind.min, IntKind.max, IntKind.signed, IntKind.bits]; omega)
theorem strZero (w : World) : (zeroValue 9).run Tryz.prog w = .ok (.string ⟨#[]⟩) w := by kernel_rfl
set_option maxRecDepth 100000 in
theorem head_look (w : World) (b n : Nat) (h : w.ownsMap Tryz.prog 3 (plainElem Tryz.prog 9) b n headM) (k : Int) (hk : k = 3 ∨ k = 4) :
 (Instr.lookup 183 (.map (some b)) (.int .i64 k) false).run Tryz.prog w = .ok (.string (if k = 3 then ⟨#[105, 102, 32]⟩ else ⟨#[119, 104, 105, 108, 101, 32]⟩)) w := by
 obtain ⟨v, ps, hrun, hv⟩ := World.ownsMap.lookup h keyInt Tryz.underlying183 (strZero w) (plainElem_string Tryz.underlying9 (by decide)) (keyOfInt k (by omega) (by omega))
 obtain ⟨s, rfl, hs, _⟩ := plainElem_string_inv Tryz.underlying9 hv
 rw [hrun]
 clear hrun
 have hat : headM.atKey (.int .i64 k) (.lit (.string (⟨#[]⟩ : ByteArray).data.toList)) = if k = 3 then headD3 else headD4 := by
  unfold headM
  rcases hk with rfl | rfl
  ·rw [atKey_put_other (by simp), atKey_put_same isMap_empty (by trivial)]; rfl
  ·rw [atKey_put_same (isMap_empty.put _ _) (by trivial)]; rfl
 have h1 := congrArg Prod.fst hs
 change headM.atKey (.int .i64 k) (.lit (.string (⟨#[]⟩ : ByteArray).data.toList)) = .lit (.string s.data.toList) at h1
 rw [hat] at h1
 have key : s = (if k = 3 then ⟨#[105, 102, 32]⟩ else ⟨#[119, 104, 105, 108, 101, 32]⟩) := by
  rcases hk with rfl | rfl
  ·rw [if_pos rfl] at h1 ⊢
   unfold headD3 at h1
   injection h1 with h1
   injection h1 with h1
   cases s with
   | mk d => exact ByteArray.ext (Array.toList_inj.1 h1).symm
  ·rw [if_neg (by decide)] at h1 ⊢
   unfold headD4 at h1
   injection h1 with h1
   injection h1 with h1
   cases s with
   | mk d => exact ByteArray.ext (Array.toList_inj.1 h1).symm
 rw [key]
theorem okS_branch {k : Int} {nm : ByteArray} {n nb ne : Nat} (h : Tr.okS k nm n nb ne = true) (hk : k = 3 ∨ k = 4) : n = 1 ∧ (k = 4 → ne = 0) := by
 unfold Tr.okS at h
 rcases hk with rfl | rfl
 ·rw [if_neg (by decide), if_neg (by decide), if_neg (by decide), if_pos rfl, decide_eq_true_eq] at h; exact ⟨h.1, fun e => absurd e (by decide)⟩
 ·rw [if_neg (by decide), if_neg (by decide), if_neg (by decide), if_neg (by decide), if_pos rfl, decide_eq_true_eq] at h; exact ⟨h.1, fun _ => h.2.2⟩
set_option maxRecDepth 100000 in
set_option maxHeartbeats 20000000 in
theorem stmt_of {w0 : World} (hE : PrEnv w0) {d : Nat} (hC : StmtsC w0 d) : StmtC w0 (d + 1) := by
 intro s px py pz XN cx YN cy ZN cz B b l deep w hd hvs hN hYN hZN hS hSy hSz hI hdd hlen
 have hvs0 := hvs
 have hd0 := Tr.S.deep_body hd
 have hd1 := Tr.S.deep_els hd
 have hdeep : 1 + max (Tr.S.deep.deeps s.body) (Tr.S.deep.deeps s.els) = s.deep := by cases s with | mk k nm x b l => rw [Tr.S.deep]; rfl
 have hE1 := Nat.le_max_left (Tr.S.deep.deeps s.body) (Tr.S.deep.deeps s.els)
 have hE2 := Nat.le_max_right (Tr.S.deep.deeps s.body) (Tr.S.deep.deeps s.els)
 have htx : Sy.stmt deep s = Sy.stmtT deep s.kind s.name.data.toList (Sy.texts s.exprs) (Sy.stmts (deep + 1) s.body) (Sy.stmts (deep + 1) s.els) (decide (0 < s.els.length)) := by cases s with | mk k nm x b l => rw [Sy.stmt]; rfl
 obtain ⟨OB, hOB⟩ : ∃ q, decide (0 < s.els.length) = q := ⟨_, rfl⟩
 rw [hOB] at htx
 rw [htx] at hlen ⊢
 have hlt := hI.lt
 have hll : (Sy.ind deep).length = 2 * deep := by unfold Sy.ind; rw [List.length_replicate]
 obtain ⟨w1, hw1⟩ : ∃ q, q = w.alloc (.cells #[.pointer (some ⟨b, 0, none⟩)] 81) := ⟨_, rfl⟩
 obtain ⟨w2, hw2⟩ : ∃ q, q = w1.alloc (.cells #[.int .i64 s.kind, .string s.name, .slice px XN cx, .slice py YN cy, .slice pz ZN cz] 94) := ⟨_, rfl⟩
 have hs1 : w1.heap.size = w.heap.size + 1 := by rw [hw1]; exact World.size_alloc _ _
 have hs2 : w2.heap.size = w.heap.size + 1 + 1 := by rw [hw2, World.size_alloc, hs1]
 have hc1 : w1.heap[w.heap.size]? = some (.cells #[.pointer (some ⟨b, 0, none⟩)] 81 (0, 0)) := by rw [hw1]; exact (MapKept.heap_alloc w _).1
 have hc2 : w2.heap[w1.heap.size]? = some (.cells #[.int .i64 s.kind, .string s.name, .slice px XN cx, .slice py YN cy, .slice pz ZN cz] 94 (0, 0)) := by rw [hw2]; exact (MapKept.heap_alloc w1 _).1
 have hi1 : PrIn w0 B b l deep w1 := by rw [hw1]; exact hI.box _
 have hi2 : PrIn w0 B b l deep w2 := by rw [hw2]; exact hi1.box _
 have hk2 : Pk B b w w2 := by rw [hw2, hw1]; exact (hI.pk _).trans ((hI.box _).pk _)
 have hc1' : w2.heap[w.heap.size]? = some (.cells #[.pointer (some ⟨b, 0, none⟩)] 81 (0, 0)) := by
  have h1 := below_box w1 (.cells #[.int .i64 s.kind, .string s.name, .slice px XN cx, .slice py YN cy, .slice pz ZN cz] 94)
  rw [← hw2] at h1
  exact (h1.block _ (by omega)).trans hc1
 rw [hs1] at hc2
 have HW2 : Hid (w2 = (w.alloc (.cells #[.pointer (some ⟨b, 0, none⟩)] 81)).alloc (.cells #[.int .i64 s.kind, .string s.name, .slice px XN cx, .slice py YN cy, .slice pz ZN cz] 94)) := by show _ = _; rw [hw2, hw1]
 have HI := Lib.hid hi2
 have HK := Lib.hid hk2
 have HP := Lib.hid hc1'
 have HC := Lib.hid hc2
 have HS2 := Lib.hid hs2
 have HNB : Hid (w.heap.size ≠ b ∧ w.heap.size + 1 ≠ b) := ⟨by omega, by omega⟩
 have HS := Lib.hid hS
 have HSY := Lib.hid hSy
 have HSZ := Lib.hid hSz
 have HN := Lib.hid hN
 have HYN := Lib.hid hYN
 have HZN := Lib.hid hZN
 have HE := Lib.hid hE
 have HCC := Lib.hid hC
 have HV := Lib.hid hvs0
 have HDD : Hid (deep + 1 + Tr.S.deep.deeps s.body ≤ 1000000 ∧ deep + 1 + Tr.S.deep.deeps s.els ≤ 1000000 ∧ Tr.S.deep.deeps s.body ≤ d ∧ Tr.S.deep.deeps s.els ≤ d) := ⟨by omega, by omega, hd0, hd1⟩
 have HL := Lib.hid hlen
 have hdp : deep ≤ 1000000 := by omega
 unfold stmtV
 clear hI hE hS hSy hSz hw1 hw2 hs1 hs2 hc1 hc2 hi1 hi2 hk2 hc1' hC hvs0 hd0 hd1 hdeep hE1 hE2 htx hd hdd
 by_cases hbr : s.kind = 3 ∨ s.kind = 4
 ·obtain ⟨k, nm, xs, bd, el⟩ := s
  have hv2 := HV.out
  rw [Tr.validS] at hv2
  simp only [Bool.and_eq_true] at hv2
  obtain ⟨⟨⟨hvx, hok⟩, hvb⟩, hve⟩ := hv2
  change k = 3 ∨ k = 4 at hbr
  change xs.length = XN at hN
  change bd.length = YN at hYN
  change el.length = ZN at hZN
  rw [hN, hYN, hZN] at hok
  obtain ⟨hx1, hz0⟩ := okS_branch hok hbr
  subst hx1
  obtain ⟨x, rfl⟩ : ∃ x, xs = [x] := by
   match xs, hN with
   | [x], _ => exact ⟨x, rfl⟩
  rw [Tr.validEs, Tr.validEs, Bool.and_true] at hvx
  simp only [Tr.S.kind, Tr.S.name, Tr.S.exprs, Tr.S.body, Tr.S.els] at HC HW2 HS HSY HSZ HDD HL hlen ⊢
  obtain ⟨head, hhead⟩ : ∃ q : ByteArray, (if k = 3 then ⟨#[105, 102, 32]⟩ else ⟨#[119, 104, 105, 108, 101, 32]⟩) = q := ⟨_, rfl⟩
  have hzz : k = 4 → ZN = 0 := hz0
  obtain ⟨ELS, hels⟩ : ∃ q : List UInt8, (if 0 < ZN then Sy.line deep [125, 32, 101, 108, 115, 101, 32, 123] ++ Sy.stmts (deep + 1) el else []) = q := ⟨_, rfl⟩
  have hst : Sy.stmtT deep k nm.data.toList (Sy.texts [x]) (Sy.stmts (deep + 1) bd) (Sy.stmts (deep + 1) el) OB = Sy.line deep (head.data.toList ++ Sy.text x ++ [32, 123]) ++ Sy.stmts (deep + 1) bd ++ ELS ++ Sy.line deep [125] := by
   have hob : OB = decide (0 < ZN) := by rw [← hOB, ← hZN]; rfl
   rw [hob, Sy.texts, Sy.texts]
   unfold Sy.stmtT
   rcases hbr with rfl | rfl
   ·rw [if_pos rfl, ← hhead, ← hels, if_pos rfl]
    by_cases hz : 0 < ZN
    ·rw [decide_eq_true hz]; simp [hz]
    ·rw [decide_eq_false hz]; simp [hz]
   ·rw [if_neg (by decide), if_pos rfl, ← hhead, ← hels, if_neg (by decide), if_neg (by have := hz0 rfl; omega), List.append_nil]
    rfl
  rw [hst] at hlen ⊢
  clear HL
  have HL := Lib.hid hlen
  have HST := Lib.hid hst
  have HHD := Lib.hid hhead
  have HELS := Lib.hid hels
  have HVX := Lib.hid hvx
  have HVB := Lib.hid hvb
  have HVE := Lib.hid hve
  have hmk := @run_makeMap Tryz.prog
  have z0 := cell_of_blkP HC.out (j := 0) (u := .int .i64 k) rfl
  clear hlen hst hels hvx hvb hve hok hN hYN hZN hvs
  rcases hbr with rfl | rfl
  ·obtain rfl : ⟨#[105, 102, 32]⟩ = head := by rw [← hhead]; rfl
   clear hhead HHD
   clear hzz hz0
   have hls := HL.out
   have hlb : (Sy.line deep ((⟨#[105, 102, 32]⟩ : ByteArray).data.toList ++ Sy.text x ++ [32, 123])).length = (Sy.ind deep).length + (3 + (Sy.text x).length + 2) + 1 := by unfold Sy.line; rw [List.length_append, List.length_append, List.length_append, List.length_append]; rfl
   go_enter Tryz.func148, Tryz.ntmps148
   go_upto_region 2 with fail
   rw [← HW2.out]
   clear HW2
   clear z0
   go_wp2_with (first
    | (refine wpList_insert_own _ rfl _ _ _ 183 rfl 3 9 keyInt Tryz.underlying183 (plainElem Tryz.prog 9) w2.heap.size 1 ((DataW.map []).put (.int .i64 3) headD3) rfl HO3.out (by unfold maxLen; omega) (.int .i64 4) (.string ⟨#[119, 104, 105, 108, 101, 32]⟩) (.int .i64 4) rfl rfl (keyOfInt 4 (by decide) (by decide)) headD4 [] (plainElem_string Tryz.underlying9 (by decide)) ?_; intro w4 ho4 hg4; have hb24 : Below w2.heap.size w2 w4 := ((below_box w2 (.map #[] 0)).grown HG3.out (by simp) (fun q hq => by cases hq; exact Nat.le_refl _)).grown hg4 (by have := HG3.out.size; simp only [World.size_alloc] at this; omega) (fun q hq => by cases hq; exact Nat.le_refl _); have hlook := head_look w4 _ _ ho4 3 (by decide); have HB24 := Lib.hid hb24; have HP4 := Lib.hid ((hb24.block _ (Array.getElem?_eq_some_iff.1 HP.out).1).trans HP.out); have HC4 := Lib.hid ((hb24.block _ (Array.getElem?_eq_some_iff.1 HC.out).1).trans HC.out); have z0 := cell_of_blkP HC4.out (j := 0) (u := .int .i64 3) rfl; have zp := cell_of_blkP HP4.out (j := 0) (u := .pointer (some ⟨b, 0, none⟩)) rfl; have hlz := cell_lt' z0; have hlp := cell_lt' zp; clear hb24 ho4 hg4)
    | (refine wpList_insert_own _ rfl _ _ _ 183 rfl 3 9 keyInt Tryz.underlying183 (plainElem Tryz.prog 9) w2.heap.size 0 (DataW.map []) rfl (World.ownsMap_made w2 _ _ _) (by unfold maxLen; omega) (.int .i64 3) (.string ⟨#[105, 102, 32]⟩) (.int .i64 3) rfl rfl (keyOfInt 3 (by decide) (by decide)) headD3 [] (plainElem_string Tryz.underlying9 (by decide)) ?_; intro w3 ho3 hg3; have HO3 := Lib.hid ho3; have HG3 := Lib.hid hg3; clear ho3 hg3))
   have hi4 := HI.out.below HB24.out
   have HK4 : Hid (Pk B b w w4) := HK.out.trans (Pk.of_below HB24.out HI.out.leB)
   have hb5 := below_box w4 (.cells #[.string ⟨#[105, 102, 32]⟩] 9)
   have hhb := (MapKept.heap_alloc w4 (.cells #[.string ⟨#[105, 102, 32]⟩] 9)).1
   have hne4 := hi4.ne
   have hi5 := hi4.box (.cells #[.string ⟨#[105, 102, 32]⟩] 9)
   have hk5 := HK4.out.trans (hi4.pk (.cells #[.string ⟨#[105, 102, 32]⟩] 9))
   have hp5 := (hb5.block _ (Array.getElem?_eq_some_iff.1 HP4.out).1).trans HP4.out
   have hc5 := (hb5.block _ (Array.getElem?_eq_some_iff.1 HC4.out).1).trans HC4.out
   obtain ⟨w5, hw5⟩ : ∃ q, q = w4.alloc (.cells #[.string ⟨#[105, 102, 32]⟩] 9) := ⟨_, rfl⟩
   rw [← hw5] at hhb hi5 hk5 hp5 hc5
   have kl := line_any hi5 172 #[.pointer (some ⟨w.heap.size, 0, none⟩), .pointer (some ⟨w4.heap.size, 0, none⟩), .pointer (some ⟨w.heap.size + 1, 0, none⟩)] ((⟨#[105, 102, 32]⟩ : ByteArray).data.toList ++ Sy.text x ++ [32, 123]) hdp (by have h9 := hls; simp only [List.length_append] at h9 ⊢; omega) (enters_of Tryz.func172 (by kernel_rfl) rfl) (fun V hk hi => headStmt_any HE.out ⟨#[105, 102, 32]⟩ x HVX.out px cx HS.out 3 nm (.slice py YN cy) (.slice pz ZN cz) w.heap.size w4.heap.size (w.heap.size + 1) B b _ deep V hi (hk.box hp5 HNB.out.1 (by decide)) (hk.box hhb hne4 (by decide)) (hk.box hc5 HNB.out.2 (by decide)) HNB.out.1 HNB.out.2 (by have h9 := hls; rw [List.length_append, List.length_append, List.length_append, hlb] at h9; rw [List.length_append]; show _ + (3 + (Sy.text x).length + 2) ≤ _; omega))
   have KL := Lib.hid kl
   have HI5 := Lib.hid hi5
   have HK5 := Lib.hid hk5
   have HP5 := Lib.hid hp5
   have HC5 := Lib.hid hc5
   rw [← hw5]
   clear kl hi4 hb5 hhb hne4 hi5 hk5 hp5 hc5 hw5 z0 zp hlz hlp hlook
   refine KL.out.mono ?_
   rintro e' w6 ⟨rfl, hs, hk⟩
   have HI6 := Lib.hid (HI5.out.next hs hk)
   have HK6 := Lib.hid (HK5.out.trans hk)
   have HP6 := Lib.hid (hk.box HP5.out HNB.out.1 (by decide))
   have HC6 := Lib.hid (hk.box HC5.out HNB.out.2 (by decide))
   clear hs hk
   have zp := cell_of_blkP HP6.out (j := 0) (u := .pointer (some ⟨b, 0, none⟩)) rfl
   have z3 := cell_of_blkP HC6.out (j := 3) (u := .slice py YN cy) rfl
   have KB := Lib.hid (HCC.out bd py YN cy B b _ deep w6 HDD.out.2.2.1 HVB.out HYN.out HSY.out HI6.out HDD.out.1 (by have h9 := hls; simp only [List.length_append] at h9 ⊢; omega))
   go_wp2_with fail
   refine KB.out.mono ?_
   rintro e' w7 ⟨rfl, hs, hk⟩
   have HI7 := Lib.hid (HI6.out.next hs hk)
   have HK7 := Lib.hid (HK6.out.trans hk)
   have HP7 := Lib.hid (hk.box HP6.out HNB.out.1 (by decide))
   have HC7 := Lib.hid (hk.box HC6.out HNB.out.2 (by decide))
   clear hs hk
   clear zp z3
   have z4 := cell_of_blkP HC7.out (j := 4) (u := .slice pz ZN cz) rfl
   by_cases hz : ZN = 0
   ·subst hz
    have zp := cell_of_blkP HP7.out (j := 0) (u := .pointer (some ⟨b, 0, none⟩)) rfl
    clear zp
    have zp := cell_of_blkP HP7.out (j := 0) (u := .pointer (some ⟨b, 0, none⟩)) rfl
    have KW := Lib.hid (word_any HI7.out [⟨#[125]⟩] 1 #[.string ⟨#[125]⟩] [125] rfl rfl (by simp [flatB]) hdp (by have h9 := hls; simp only [List.length_append] at h9 ⊢; omega) (by decide))
    go_wp2_with fail
    refine KW.out.mono ?_
    rintro e' wz ⟨rfl, hs, hk⟩
    have HSz := Lib.hid hs
    have HKz := Lib.hid (HK7.out.trans hk)
    clear hs hk zp z4
    go_wp2_with fail
    go_end0
    exact ⟨rfl, by have h1 := HSz.out; rw [← HELS.out]; rw [if_neg (by omega)]; first | exact h1 | (simp only [List.append_assoc] at h1 ⊢; exact h1) | (simp only [List.append_assoc, List.append_nil] at h1 ⊢; exact h1), HKz.out⟩
   ·have hz1 : (0 : Int) < (ZN : Int) := by omega
    have hels := HELS.out
    rw [if_pos (by omega)] at hels
    have HELZ := Lib.hid hels
    clear hels hz
    have zp := cell_of_blkP HP7.out (j := 0) (u := .pointer (some ⟨b, 0, none⟩)) rfl
    have KE := Lib.hid (word_any HI7.out [⟨#[125, 32, 101, 108, 115, 101, 32, 123]⟩] 1 #[.string ⟨#[125, 32, 101, 108, 115, 101, 32, 123]⟩] [125, 32, 101, 108, 115, 101, 32, 123] rfl rfl (by simp [flatB]) hdp (by have h9 := hls; rw [← HELZ.out] at h9; simp only [List.length_append] at h9 ⊢; omega) (by decide))
    go_wp2_with fail
    refine KE.out.mono ?_
    rintro e' w8 ⟨rfl, hs, hk⟩
    have HI8 := Lib.hid (HI7.out.next hs hk)
    have HK8 := Lib.hid (HK7.out.trans hk)
    have HP8 := Lib.hid (hk.box HP7.out HNB.out.1 (by decide))
    have HC8 := Lib.hid (hk.box HC7.out HNB.out.2 (by decide))
    clear hs hk
    clear zp z4
    have zp := cell_of_blkP HP8.out (j := 0) (u := .pointer (some ⟨b, 0, none⟩)) rfl
    have z4 := cell_of_blkP HC8.out (j := 4) (u := .slice pz ZN cz) rfl
    have KF := Lib.hid (HCC.out el pz ZN cz B b _ deep w8 HDD.out.2.2.2 HVE.out HZN.out HSZ.out HI8.out HDD.out.2.1 (by have h9 := hls; rw [← HELZ.out] at h9; simp only [List.length_append] at h9 ⊢; omega))
    go_wp2_with fail
    refine KF.out.mono ?_
    rintro e' w9 ⟨rfl, hs, hk⟩
    have HI9 := Lib.hid (HI8.out.next hs hk)
    have HK9 := Lib.hid (HK8.out.trans hk)
    have HP9 := Lib.hid (hk.box HP8.out HNB.out.1 (by decide))
    have HC9 := Lib.hid (hk.box HC8.out HNB.out.2 (by decide))
    clear hs hk
    clear zp z4
    have zp := cell_of_blkP HP9.out (j := 0) (u := .pointer (some ⟨b, 0, none⟩)) rfl
    have KW := Lib.hid (word_any HI9.out [⟨#[125]⟩] 1 #[.string ⟨#[125]⟩] [125] rfl rfl (by simp [flatB]) hdp (by have h9 := hls; rw [← HELZ.out] at h9; simp only [List.length_append] at h9 ⊢; omega) (by decide))
    go_wp2_with fail
    refine KW.out.mono ?_
    rintro e' wz ⟨rfl, hs, hk⟩
    have HSz := Lib.hid hs
    have HKz := Lib.hid (HK9.out.trans hk)
    clear hs hk zp
    go_wp2_with fail
    go_end0
    exact ⟨rfl, by have h1 := HSz.out; rw [← HELZ.out]; first | exact h1 | (simp only [List.append_assoc] at h1 ⊢; exact h1) | (simp only [List.append_assoc, List.append_nil] at h1 ⊢; exact h1), HKz.out⟩
  ·obtain rfl : ⟨#[119, 104, 105, 108, 101, 32]⟩ = head := by rw [← hhead]; rfl
   clear hhead HHD
   obtain rfl : ZN = 0 := hzz rfl
   clear hzz hz0
   have hls := HL.out
   have hlb : (Sy.line deep ((⟨#[119, 104, 105, 108, 101, 32]⟩ : ByteArray).data.toList ++ Sy.text x ++ [32, 123])).length = (Sy.ind deep).length + (6 + (Sy.text x).length + 2) + 1 := by unfold Sy.line; rw [List.length_append, List.length_append, List.length_append, List.length_append]; rfl
   go_enter Tryz.func148, Tryz.ntmps148
   go_upto_region 2 with fail
   rw [← HW2.out]
   clear HW2
   clear z0
   go_wp2_with (first
    | (refine wpList_insert_own _ rfl _ _ _ 183 rfl 3 9 keyInt Tryz.underlying183 (plainElem Tryz.prog 9) w2.heap.size 1 ((DataW.map []).put (.int .i64 3) headD3) rfl HO3.out (by unfold maxLen; omega) (.int .i64 4) (.string ⟨#[119, 104, 105, 108, 101, 32]⟩) (.int .i64 4) rfl rfl (keyOfInt 4 (by decide) (by decide)) headD4 [] (plainElem_string Tryz.underlying9 (by decide)) ?_; intro w4 ho4 hg4; have hb24 : Below w2.heap.size w2 w4 := ((below_box w2 (.map #[] 0)).grown HG3.out (by simp) (fun q hq => by cases hq; exact Nat.le_refl _)).grown hg4 (by have := HG3.out.size; simp only [World.size_alloc] at this; omega) (fun q hq => by cases hq; exact Nat.le_refl _); have hlook := head_look w4 _ _ ho4 4 (by decide); have HB24 := Lib.hid hb24; have HP4 := Lib.hid ((hb24.block _ (Array.getElem?_eq_some_iff.1 HP.out).1).trans HP.out); have HC4 := Lib.hid ((hb24.block _ (Array.getElem?_eq_some_iff.1 HC.out).1).trans HC.out); have z0 := cell_of_blkP HC4.out (j := 0) (u := .int .i64 4) rfl; have zp := cell_of_blkP HP4.out (j := 0) (u := .pointer (some ⟨b, 0, none⟩)) rfl; have hlz := cell_lt' z0; have hlp := cell_lt' zp; clear hb24 ho4 hg4)
    | (refine wpList_insert_own _ rfl _ _ _ 183 rfl 3 9 keyInt Tryz.underlying183 (plainElem Tryz.prog 9) w2.heap.size 0 (DataW.map []) rfl (World.ownsMap_made w2 _ _ _) (by unfold maxLen; omega) (.int .i64 3) (.string ⟨#[105, 102, 32]⟩) (.int .i64 3) rfl rfl (keyOfInt 3 (by decide) (by decide)) headD3 [] (plainElem_string Tryz.underlying9 (by decide)) ?_; intro w3 ho3 hg3; have HO3 := Lib.hid ho3; have HG3 := Lib.hid hg3; clear ho3 hg3))
   have hi4 := HI.out.below HB24.out
   have HK4 : Hid (Pk B b w w4) := HK.out.trans (Pk.of_below HB24.out HI.out.leB)
   have hb5 := below_box w4 (.cells #[.string ⟨#[119, 104, 105, 108, 101, 32]⟩] 9)
   have hhb := (MapKept.heap_alloc w4 (.cells #[.string ⟨#[119, 104, 105, 108, 101, 32]⟩] 9)).1
   have hne4 := hi4.ne
   have hi5 := hi4.box (.cells #[.string ⟨#[119, 104, 105, 108, 101, 32]⟩] 9)
   have hk5 := HK4.out.trans (hi4.pk (.cells #[.string ⟨#[119, 104, 105, 108, 101, 32]⟩] 9))
   have hp5 := (hb5.block _ (Array.getElem?_eq_some_iff.1 HP4.out).1).trans HP4.out
   have hc5 := (hb5.block _ (Array.getElem?_eq_some_iff.1 HC4.out).1).trans HC4.out
   obtain ⟨w5, hw5⟩ : ∃ q, q = w4.alloc (.cells #[.string ⟨#[119, 104, 105, 108, 101, 32]⟩] 9) := ⟨_, rfl⟩
   rw [← hw5] at hhb hi5 hk5 hp5 hc5
   have kl := line_any hi5 172 #[.pointer (some ⟨w.heap.size, 0, none⟩), .pointer (some ⟨w4.heap.size, 0, none⟩), .pointer (some ⟨w.heap.size + 1, 0, none⟩)] ((⟨#[119, 104, 105, 108, 101, 32]⟩ : ByteArray).data.toList ++ Sy.text x ++ [32, 123]) hdp (by have h9 := hls; simp only [List.length_append] at h9 ⊢; omega) (enters_of Tryz.func172 (by kernel_rfl) rfl) (fun V hk hi => headStmt_any HE.out ⟨#[119, 104, 105, 108, 101, 32]⟩ x HVX.out px cx HS.out 4 nm (.slice py YN cy) (.slice pz 0 cz) w.heap.size w4.heap.size (w.heap.size + 1) B b _ deep V hi (hk.box hp5 HNB.out.1 (by decide)) (hk.box hhb hne4 (by decide)) (hk.box hc5 HNB.out.2 (by decide)) HNB.out.1 HNB.out.2 (by have h9 := hls; rw [List.length_append, List.length_append, List.length_append, hlb] at h9; rw [List.length_append]; show _ + (6 + (Sy.text x).length + 2) ≤ _; omega))
   have KL := Lib.hid kl
   have HI5 := Lib.hid hi5
   have HK5 := Lib.hid hk5
   have HP5 := Lib.hid hp5
   have HC5 := Lib.hid hc5
   rw [← hw5]
   clear kl hi4 hb5 hhb hne4 hi5 hk5 hp5 hc5 hw5 z0 zp hlz hlp hlook
   refine KL.out.mono ?_
   rintro e' w6 ⟨rfl, hs, hk⟩
   have HI6 := Lib.hid (HI5.out.next hs hk)
   have HK6 := Lib.hid (HK5.out.trans hk)
   have HP6 := Lib.hid (hk.box HP5.out HNB.out.1 (by decide))
   have HC6 := Lib.hid (hk.box HC5.out HNB.out.2 (by decide))
   clear hs hk
   have zp := cell_of_blkP HP6.out (j := 0) (u := .pointer (some ⟨b, 0, none⟩)) rfl
   have z3 := cell_of_blkP HC6.out (j := 3) (u := .slice py YN cy) rfl
   have KB := Lib.hid (HCC.out bd py YN cy B b _ deep w6 HDD.out.2.2.1 HVB.out HYN.out HSY.out HI6.out HDD.out.1 (by have h9 := hls; simp only [List.length_append] at h9 ⊢; omega))
   go_wp2_with fail
   refine KB.out.mono ?_
   rintro e' w7 ⟨rfl, hs, hk⟩
   have HI7 := Lib.hid (HI6.out.next hs hk)
   have HK7 := Lib.hid (HK6.out.trans hk)
   have HP7 := Lib.hid (hk.box HP6.out HNB.out.1 (by decide))
   have HC7 := Lib.hid (hk.box HC6.out HNB.out.2 (by decide))
   clear hs hk
   clear zp z3
   have z4 := cell_of_blkP HC7.out (j := 4) (u := .slice pz 0 cz) rfl
   have zp := cell_of_blkP HP7.out (j := 0) (u := .pointer (some ⟨b, 0, none⟩)) rfl
   have KW := Lib.hid (word_any HI7.out [⟨#[125]⟩] 1 #[.string ⟨#[125]⟩] [125] rfl rfl (by simp [flatB]) hdp (by have h9 := hls; simp only [List.length_append] at h9 ⊢; omega) (by decide))
   go_wp2_with fail
   refine KW.out.mono ?_
   rintro e' wz ⟨rfl, hs, hk⟩
   have HSz := Lib.hid hs
   have HKz := Lib.hid (HK7.out.trans hk)
   clear hs hk zp z4
   go_wp2_with fail
   go_end0
   exact ⟨rfl, by have h1 := HSz.out; rw [← HELS.out]; rw [if_neg (by omega)]; first | exact h1 | (simp only [List.append_assoc] at h1 ⊢; exact h1) | (simp only [List.append_assoc, List.append_nil] at h1 ⊢; exact h1), HKz.out⟩
 ·have h3 : s.kind ≠ 3 := fun e => hbr (.inl e)
  have h4 : s.kind ≠ 4 := fun e => hbr (.inr e)
  have h3b : (s.kind == 3) = false := beq_eq_false_iff_ne.2 h3
  have h4b : (s.kind == 4) = false := beq_eq_false_iff_ne.2 h4
  have hst : Sy.stmtT deep s.kind s.name.data.toList (Sy.texts s.exprs) (Sy.stmts (deep + 1) s.body) (Sy.stmts (deep + 1) s.els) OB = Sy.line deep (Sy.simple s.kind s.name.data.toList (Sy.texts s.exprs) ++ [59]) := by
   unfold Sy.stmtT; rw [if_neg h3, if_neg h4]
  rw [hst] at hlen ⊢
  have hlen2 : l.length + (Sy.ind deep).length + ((Sy.simple s.kind s.name.data.toList (Sy.texts s.exprs)).length + 1) ≤ 140737488355328 := by
   have h9 := hlen
   unfold Sy.line at h9
   simp only [List.length_append, List.length_cons, List.length_nil] at h9
   omega
  have KL := Lib.hid (line_any HI.out 173 #[.pointer (some ⟨w.heap.size, 0, none⟩), .pointer (some ⟨w.heap.size + 1, 0, none⟩)] _ hdp hlen (enters_of Tryz.func173 (by kernel_rfl) rfl) (fun V hk hi =>
   plainStmt_any HE.out s HV.out h3 h4 px py pz XN cx YN cy ZN cz HN.out HS.out w.heap.size (w.heap.size + 1) B b _ deep V hi (hk.box HP.out HNB.out.1 (by decide)) (hk.box HC.out HNB.out.2 (by decide)) HNB.out.1 (by rw [List.length_append]; exact hlen2)))
  have HST := Lib.hid hst
  clear hlen hlen2 h3 h4 hbr hst HL
  go_enter Tryz.func148, Tryz.ntmps148
  go_wp2_with fail
  rw [← HW2.out]
  refine KL.out.mono ?_
  rintro e' w4 ⟨rfl, hs, hk⟩
  have HS4 := Lib.hid hs
  have HK4 := Lib.hid (HK.out.trans hk)
  clear hs hk
  go_wp2_with fail
  go_end0
  exact ⟨rfl, HS4.out, HK4.out⟩
theorem stmtC {w0 : World} (hE : PrEnv w0) : ∀ d, StmtC w0 d := by
 intro d
 induction d with
 | zero => intro s px py pz XN cx YN cy ZN cz B b l deep w hd; have := s.deep_pos; omega
 | succ d ih => exact stmt_of hE (stmts_of ih)
end Go.Proofs.YtdckddkalgnlpaaGreatDoor
namespace Go.Proofs.YtdckddkalgnlpaaGreatDoor
open Go.RowKit Go.Maps
theorem join_commas : ∀ l : List (List UInt8), Lib.join l [44, 32] = Sy.commas l
 | [] => rfl
 | [x] => by simp [Lib.join, Sy.commas]
 | x :: y :: r => by rw [Sy.commas, ← join_commas (y :: r)]; simp [Lib.join]
theorem join_any (v : Value) (ps : List ByteArray) (w : World) (h : SlStr w v ps) (hl : (Sy.commas (ps.map (·.data.toList))).length ≤ 140737488355328) (hn : ps.length ≤ 1000000) :
 Calls Tryz.prog 42 #[v, .string ⟨#[44, 32]⟩] w fun e w' => e = .returned (.string ⟨(Sy.commas (ps.map (·.data.toList))).toArray⟩) ∧ Below w.heap.size w w' := by
 obtain ⟨p, c, rfl, _, hcap, hx⟩ := h
 cases ps with
 | nil =>
   refine (Tryz.strings_Join_none p c ⟨#[44, 32]⟩ w).mono ?_
   rintro e w' ⟨rfl, rfl⟩
   exact ⟨rfl, Below.refl _ _⟩
 | cons s r =>
   obtain ⟨_, b, o, rfl, hb, _⟩ := hx 0 s rfl
   have h1 := Tryz.strings_Join b o c (s :: r) ⟨#[44, 32]⟩ w (fun j x hj => by
    obtain ⟨_, b', o', e, _, h2⟩ := hx j x hj
    simp only [Option.some.injEq, Addr.mk.injEq] at e
    obtain ⟨rfl, rfl, _⟩ := e
    exact h2) hb (by omega) (hcap (by simp)).1 (by rw [show (⟨#[44, 32]⟩ : ByteArray).data.toList = [44, 32] from rfl, join_commas]; exact hl)
   rw [show (⟨#[44, 32]⟩ : ByteArray).data.toList = [44, 32] from rfl, join_commas] at h1
   exact h1
end Go.Proofs.YtdckddkalgnlpaaGreatDoor
namespace Go.Proofs.YtdckddkalgnlpaaGreatDoor
open Go.RowKit Go.Maps
theorem fl_take {α : Type} (g : α → List UInt8) {ls : List α} {j : Nat} {s : α} (h : ls[j]? = some s) : ((ls.take (j + 1)).map g).flatten = ((ls.take j).map g).flatten ++ g s := by
 rw [List.take_add_one, h]; simp
theorem fl_le {α : Type} (g : α → List UInt8) (ls : List α) (j : Nat) : ((ls.take j).map g).flatten.length ≤ (ls.map g).flatten.length := by
 have h : (ls.map g).flatten = ((ls.take j).map g).flatten ++ ((ls.drop j).map g).flatten := by rw [← List.flatten_append, ← List.map_append, List.take_append_drop]
 rw [h, List.length_append]; omega
theorem SlStr.get {w : World} {p : Option Addr} {n c : Nat} {l : List ByteArray} (h : SlStr w (.slice p n c) l) {j : Nat} {s : ByteArray} (hj : l[j]? = some s) :
 ∃ b o, p = some ⟨b, o, none⟩ ∧ b < w.heap.size ∧ w.cell? ⟨b, o + j, none⟩ = some (.string s) := by
 obtain ⟨p', c', e, _, _, hx⟩ := h
 cases e
 obtain ⟨_, b, o, h2, h3, h4⟩ := hx j s hj
 exact ⟨b, o, h2, h3, h4⟩
theorem CellsM.keep {w w' : World} {b o : Nat} {m : Tr.M} {x y : Value} (h : CellsM w b o m x y) (hb : Below w.heap.size w w') : CellsM w' b o m x y :=
 ⟨cell_keep' hb h.1, cell_keep' hb h.2.1, cell_keep' hb h.2.2⟩
def clCells (nm : ByteArray) (act : Bool) (x y : Value) : Array Value := #[.string nm, .bool act, x, y]
set_option maxRecDepth 100000 in
set_option maxHeartbeats 8000000 in
theorem classIn_any {w0 : World} (hE : PrEnv w0) (c : Tr.C) (hv : ∀ m ∈ c.methods, Tr.validSs m.body = true) (hd : ∀ m ∈ c.methods, Tr.S.deep.deeps m.body ≤ 900000 ∧ m.params.length ≤ 1000000) (fp : Option Addr) (FN fc : Nat) (mp : Option Addr) (MN mc : Nat) (hFN : c.fields.length = FN) (hMN : c.methods.length = MN)
 (hF : SlStr w0 (.slice fp FN fc) c.fields) (hM : SlM w0 (.slice mp MN mc) c.methods) (cb pb B b : Nat) (l : List UInt8) (w : World) (hI : PrIn w0 B b l ((1 : Nat) : Int) w)
 (hcb : w.heap[cb]? = some (.cells (clCells c.name c.actor (.slice fp FN fc) (.slice mp MN mc)) 49 (0, 0))) (hpb : w.heap[pb]? = some (.cells #[.pointer (some ⟨b, 0, none⟩)] 81 (0, 0))) (hpbb : pb ≠ b) (hcbb : cb ≠ b)
 (hlen : l.length + ((c.fields.map Sy.fieldT).flatten.length + (c.methods.map Sy.methodT).flatten.length) ≤ 140737488355328) :
 Calls Tryz.prog 95 #[.pointer (some ⟨cb, 0, none⟩), .pointer (some ⟨pb, 0, none⟩)] w (PrPost B b l ((c.fields.map Sy.fieldT).flatten ++ (c.methods.map Sy.methodT).flatten) ((1 : Nat) : Int) w) := by
 have e2 := cell_of_blkP hcb (j := 2) (u := .slice fp FN fc) rfl
 have hf6 : FN ≤ 9223372036854775807 := by
  have := hF.len
  rw [hFN] at this
  unfold maxLen at this
  exact this
 have hm6 : MN ≤ 9223372036854775807 := by
  have := hM.len
  rw [hMN] at this
  unfold maxLen at this
  exact this
 have HI := Lib.hid hI
 have HF := Lib.hid hF
 have HM := Lib.hid hM
 have HFN := Lib.hid hFN
 have HMN := Lib.hid hMN
 have HD := Lib.hid hd
 have HV := Lib.hid hv
 have HE := Lib.hid hE
 have HL := Lib.hid hlen
 have HP := Lib.hid hpb
 have HCB := Lib.hid hcb
 clear hI hF hM hFN hMN hd hv hE hlen hpb hcb
 go_enter Tryz.func95, Tryz.ntmps95
 go_wp2_with fail
 clear e2
 go_loopg [3, 9] FN (fun g s3 s9 wr => ∃ j : Nat, s9 = .int .i64 j ∧ j ≤ FN ∧ g = FN - j ∧ Hid (PrIn w0 B b (l ++ ((c.fields.take j).map Sy.fieldT).flatten) ((1 : Nat) : Int) wr) ∧ Hid (Pk B b w wr))
 case atStart => exact ⟨0, rfl, Nat.zero_le _, rfl, by show PrIn _ _ _ _ _ _; rw [List.take_zero]; rw [show ((([] : List ByteArray).map Sy.fieldT).flatten : List UInt8) = [] from rfl, List.append_nil]; exact HI.out, Pk.refl _ _ _⟩
 case round =>
  obtain ⟨j, rfl, hj, rfl, HST, HK⟩ := hrel
  by_cases hlt : j < FN
  ·obtain ⟨s, hs⟩ : ∃ s, c.fields[j]? = some s := ⟨_, List.getElem?_eq_getElem (by rw [HFN.out]; exact hlt)⟩
   obtain ⟨b', o', rfl, _, hc⟩ := HF.out.get hs
   have x0 := cell_keep' HST.out.base hc
   have htk := fl_take Sy.fieldT hs
   have hle := fl_le Sy.fieldT c.fields (j + 1)
   rw [htk, List.length_append] at hle
   have KW := Lib.hid (word_any HST.out [⟨#[118, 97, 114, 32]⟩, s, ⟨#[59]⟩] 3 #[.string ⟨#[118, 97, 114, 32]⟩, .string s, .string ⟨#[59]⟩] ([118, 97, 114, 32] ++ s.data.toList ++ [59]) rfl rfl (by simp [flatB]) (by decide) (by have := HL.out; show _ + (Sy.fieldT s).length ≤ _; rw [List.length_append]; omega) (by decide))
   have zp := cell_of_blkP (HK.out.box HP.out hpbb (by decide)) (j := 0) (u := .pointer (some ⟨b, 0, none⟩)) rfl
   have HTK := Lib.hid htk
   have b3 : (j : Int) < (FN : Int) := by omega
   have hl0 := cell_lt' x0
   clear hs hc htk hle
   go_wp2_with fail
   refine KW.out.mono ?_
   rintro e' w5 ⟨rfl, hs5, hk5⟩
   have HI5 := Lib.hid (HST.out.next hs5 hk5)
   have HK5 := Lib.hid (HK.out.trans hk5)
   clear hs5 hk5 x0 zp hl0 KW
   go_wp2_with fail
   go_roundg (FN - (j + 1))
   case measure => omega
   case rel =>
    refine ⟨j + 1, by go_num, by omega, rfl, ?_, HK5⟩
    have h1 := HI5.out
    rw [HTK.out]
    rw [List.append_assoc] at h1
    exact h1
  ·obtain rfl : j = FN := by omega
   have hfull : c.fields.take j = c.fields := List.take_of_length_le (by rw [HFN.out]; exact Nat.le_refl _)
   rw [hfull] at HST
   clear hfull
   have e3 := cell_of_blkP (HK.out.box HCB.out hcbb (by decide)) (j := 3) (u := .slice mp MN mc) rfl
   go_wp2_with fail
   clear e3
   obtain ⟨l1, hl1⟩ : ∃ q, l ++ (c.fields.map Sy.fieldT).flatten = q := ⟨_, rfl⟩
   have hll : l1.length + (c.methods.map Sy.methodT).flatten.length ≤ 140737488355328 := by have := HL.out; rw [← hl1, List.length_append]; omega
   rw [hl1] at HST
   have HLL := Lib.hid hll
   have HL1 := Lib.hid hl1
   clear hll hl1
   go_loopg [5, 21] MN (fun g s5 s21 wq => ∃ i : Nat, s21 = .int .i64 i ∧ i ≤ MN ∧ g = MN - i ∧ Hid (PrIn w0 B b (l1 ++ ((c.methods.take i).map Sy.methodT).flatten) ((1 : Nat) : Int) wq) ∧ Hid (Pk B b w wq))
   case atStart => exact ⟨0, rfl, Nat.zero_le _, rfl, by show PrIn _ _ _ _ _ _; rw [List.take_zero]; rw [show ((([] : List Tr.M).map Sy.methodT).flatten : List UInt8) = [] from rfl, List.append_nil]; exact HST.out, HK⟩
   case round =>
    obtain ⟨i, rfl, hi, rfl, HSQ, HKQ⟩ := hrel
    by_cases hlt2 : i < MN
    ·obtain ⟨m, hm⟩ : ∃ m, c.methods[i]? = some m := ⟨_, List.getElem?_eq_getElem (by rw [HMN.out]; exact hlt2)⟩
     obtain ⟨b', o', vx, vy, rfl, _, hc, _, hpx, hsy⟩ := HM.out.get hm
     obtain ⟨px, cx, rfl⟩ := hpx.form
     obtain ⟨py, cy, rfl, _⟩ := hsy.form
     obtain ⟨XN, hXN⟩ : ∃ q, m.params.length = q := ⟨_, rfl⟩
     obtain ⟨YN, hYN⟩ : ∃ q, m.body.length = q := ⟨_, rfl⟩
     rw [hXN] at hpx hc
     rw [hYN] at hsy hc
     obtain ⟨x0, x1, x2⟩ := CellsM.keep hc HSQ.out.base
     have hmm := List.mem_of_getElem? hm
     have htk := fl_take Sy.methodT hm
     have hle := fl_le Sy.methodT c.methods (i + 1)
     rw [htk, List.length_append] at hle
     obtain ⟨JT, hJT⟩ : ∃ q, Sy.commas (m.params.map (·.data.toList)) = q := ⟨_, rfl⟩
     have hmt : Sy.methodT m = Sy.line 1 ([111, 110, 32] ++ m.name.data.toList ++ [40] ++ JT ++ [41, 32, 123]) ++ (Sy.stmts 2 m.body ++ Sy.line 1 [125]) := by rw [← hJT, ← List.append_assoc]; rfl
     have hl3 : (Sy.methodT m).length = (Sy.line 1 ([111, 110, 32] ++ m.name.data.toList ++ [40] ++ JT ++ [41, 32, 123])).length + ((Sy.stmts 2 m.body).length + (Sy.line 1 [125]).length) := by rw [hmt, List.length_append, List.length_append]
     have hl4 : JT.length ≤ (Sy.line 1 ([111, 110, 32] ++ m.name.data.toList ++ [40] ++ JT ++ [41, 32, 123])).length := by unfold Sy.line; simp only [List.length_append]; omega
     obtain ⟨l2, hl2⟩ : ∃ q, l1 ++ ((c.methods.take i).map Sy.methodT).flatten = q := ⟨_, rfl⟩
     have hb2 : l2.length + ((Sy.line 1 ([111, 110, 32] ++ m.name.data.toList ++ [40] ++ JT ++ [41, 32, 123])).length + ((Sy.stmts 2 m.body).length + (Sy.line 1 [125]).length)) ≤ 140737488355328 := by have := HLL.out; rw [← hl2, List.length_append]; omega
     have HJ : Hid (∀ W, Below w0.heap.size w0 W → Calls Tryz.prog 42 #[.slice px XN cx, .string ⟨#[44, 32]⟩] W fun e w' => e = .returned (.string ⟨JT.toArray⟩) ∧ Below W.heap.size W w') := by
      intro W hb
      have h1 := join_any (.slice px XN cx) m.params W (by have h9 := hpx; rw [← hXN] at h9 ⊢; exact h9.keep hb) (by rw [hJT]; omega) (HD.out m hmm).2
      rw [hJT] at h1
      exact h1
     have HBD : Hid (∀ W l', PrIn w0 B b l' ((1 : Nat) : Int) W → l'.length + (Sy.stmts 2 m.body).length ≤ 140737488355328 → Calls Tryz.prog 96 #[.pointer (some ⟨b, 0, none⟩), .slice py YN cy] W (PrPost B b l' (Sy.stmts 2 m.body) ((1 : Nat) : Int) W)) := fun W l' h1 h2 =>
      stmts_of (stmtC HE.out (Tr.S.deep.deeps m.body)) m.body py YN cy B b l' 1 W (Nat.le_refl _) (HV.out m hmm) hYN hsy h1 (by have := (HD.out m hmm).1; omega) h2
     have HMT : Hid (((c.methods.take (i + 1)).map Sy.methodT).flatten = ((c.methods.take i).map Sy.methodT).flatten ++ (Sy.line 1 ([111, 110, 32] ++ m.name.data.toList ++ [40] ++ JT ++ [41, 32, 123]) ++ (Sy.stmts 2 m.body ++ Sy.line 1 [125]))) := by show _ = _; rw [htk, hmt]
     rw [hl2] at HSQ
     have HL2 := Lib.hid hl2
     have HB2 := Lib.hid hb2
     have b3 : (i : Int) < (MN : Int) := by omega
     have hl0 := cell_lt' x0
     have hbx := (MapKept.heap_alloc wr (.cells #[.string m.name, .slice px XN cx, .slice py YN cy] 64)).1
     have hib := HSQ.out.box (.cells #[.string m.name, .slice px XN cx, .slice py YN cy] 64)
     have hkb := HKQ.out.trans (HSQ.out.pk (.cells #[.string m.name, .slice px XN cx, .slice py YN cy] 64))
     obtain ⟨BM, hBM⟩ : ∃ q, wr.heap.size = q := ⟨_, rfl⟩
     have hne : BM ≠ b := by rw [← hBM]; exact HSQ.out.ne
     clear hm hc hpx hsy hXN hYN hmm htk hle hJT hmt hl3 hl4 hl2 hb2
     go_upto_region 8 with fail
     obtain ⟨w4, hw4⟩ : ∃ q, q = wr.alloc (.cells #[.string m.name, .slice px XN cx, .slice py YN cy] 64) := ⟨_, rfl⟩
     rw [← hw4] at hbx hib hkb ⊢
     rw [hBM] at hbx
     try rw [hBM]
     clear hw4 x0 x1 x2 hl0
     have HBX := Lib.hid hbx
     have HI4 := Lib.hid hib
     have HK4 := Lib.hid hkb
     have HP4 := Lib.hid (hkb.box HP.out hpbb (by decide))
     have y0 := cell_of_blkP hbx (j := 0) (u := .string m.name) rfl
     have y1 := cell_of_blkP hbx (j := 1) (u := .slice px XN cx) rfl
     have zp := cell_of_blkP HP4.out (j := 0) (u := .pointer (some ⟨b, 0, none⟩)) rfl
     clear hbx hib hkb
     refine wp_region_held_drew (S := fun W => W.cell? ⟨pb, 0, none⟩ = some (.pointer (some ⟨b, 0, none⟩)) ∧ W.cell? ⟨BM, 0, none⟩ = some (.string m.name) ∧ W.cell? ⟨BM, 1, none⟩ = some (.slice px XN cx) ∧ True) (by kernel_rfl) ?_ (fun hHeld => ?_)
     ·exact ⟨zp, y0, y1, trivial⟩
     have HI5 := Lib.hid HI4.out.drew
     have HK5 := Lib.hid HK4.out.drew
     have HP5 : Hid (w4.drew.heap[pb]? = some (.cells #[.pointer (some ⟨b, 0, none⟩)] 81 (0, 0))) := HP4
     have HX5 : Hid (w4.drew.heap[BM]? = some (.cells #[.string m.name, .slice px XN cx, .slice py YN cy] 64 (0, 0))) := HBX
     refine wpAnyH_take (i := 0) (oi := ⟨some 25, _, _, _, _, _⟩) (v := ?_) rfl (by kernel_rfl) (by kernel_rfl) (by kernel_rfl) (fun _ _ _ h => h) (Or.inl ⟨by rfl, ?_⟩) (by assumption) ?_
     rotate_left
     ·(intro w hSw; (try dsimp only at hSw); go_simp; (try with_reducible rfl))
     try simp only [Act.put, List.setIfInBounds_toArray, List.set_cons_zero, List.set_cons_succ]
     refine wpAnyH_take (i := 1) (oi := ⟨some 26, _, _, _, _, _⟩) (v := ?_) rfl (by kernel_rfl) (by kernel_rfl) (by kernel_rfl) (fun _ _ _ h => h) (Or.inl ⟨by rfl, ?_⟩) (by assumption) ?_
     rotate_left
     ·(intro w hSw; (try dsimp only at hSw); go_simp; (try with_reducible rfl))
     try simp only [Act.put, List.setIfInBounds_toArray, List.set_cons_zero, List.set_cons_succ]
     refine wpAnyH_take (i := 2) (oi := ⟨some 27, _, _, _, _, _⟩) (v := ?_) rfl (by kernel_rfl) (by kernel_rfl) (by kernel_rfl) (fun _ _ _ h => h) (Or.inl ⟨by rfl, ?_⟩) (by assumption) ?_
     rotate_left
     ·(intro w hSw; (try dsimp only at hSw); go_simp; (try with_reducible rfl))
     try simp only [Act.put, List.setIfInBounds_toArray, List.set_cons_zero, List.set_cons_succ]
     refine wpAnyH_take (i := 3) (oi := ⟨some 28, _, _, _, _, _⟩) (v := ?_) rfl (by kernel_rfl) (by kernel_rfl) (by kernel_rfl) (fun _ _ _ h => h) (Or.inl ⟨by rfl, ?_⟩) (by assumption) ?_
     rotate_left
     ·(intro w hSw; (try dsimp only at hSw); go_simp; (try with_reducible rfl))
     try simp only [Act.put, List.setIfInBounds_toArray, List.set_cons_zero, List.set_cons_succ]
     refine wpAnyH_take (i := 4) (oi := ⟨some 29, _, _, _, _, _⟩) (v := ?_) rfl (by kernel_rfl) (by kernel_rfl) (by kernel_rfl) (fun _ _ _ h => h) (Or.inl ⟨by rfl, ?_⟩) (by assumption) ?_
     rotate_left
     ·(intro w hSw; (try dsimp only at hSw); go_simp; (try with_reducible rfl))
     try simp only [Act.put, List.setIfInBounds_toArray, List.set_cons_zero, List.set_cons_succ]
     refine wpAnyH_ready (rs := [5]) (by kernel_rfl) (by simp) ?_
     refine AllReadyH.cons (o := ⟨some 30, _, _, _, _, _⟩) rfl (fun K hK => ?_) AllReadyH.nil
     go_simp
     with_reducible refine (HJ.out _ HI5.out.base).mono ?_
     rintro e w5 ⟨rfl, hb5⟩
     go_wp2_with fail
     have HI6 := Lib.hid (HI5.out.below hb5)
     have HP6 := Lib.hid ((hb5.block _ (Array.getElem?_eq_some_iff.1 HP5.out).1).trans HP5.out)
     have HX6 := Lib.hid ((hb5.block _ (Array.getElem?_eq_some_iff.1 HX5.out).1).trans HX5.out)
     have HK6 := Lib.hid (HK5.out.trans (Pk.of_below hb5 HI5.out.leB))
     refine hK.out _ _ ?_ (fun hHeld => ?_)
     ·exact ⟨cell_keep' hb5 hHeld.1, cell_keep' hb5 hHeld.2.1, cell_keep' hb5 hHeld.2.2.1, trivial⟩
     clear hK K
     try simp only [Act.put, List.setIfInBounds_toArray, List.set_cons_zero, List.set_cons_succ]
     refine wpAnyH_ready (rs := [6]) (by kernel_rfl) (by simp) ?_
     refine AllReadyH.cons (o := ⟨some 31, _, _, _, _, _⟩) rfl (fun K hK => ?_) AllReadyH.nil
     go_simp
     have hb6 := below_box w5 (.cells #[.string ⟨#[111, 110, 32]⟩, .string m.name, .string ⟨#[40]⟩, .string ⟨JT.toArray⟩, .string ⟨#[41, 32, 123]⟩] 9)
     refine hK.out _ _ ?_ (fun hHeld => ?_)
     ·exact ⟨cell_keep' hb6 hHeld.1, cell_keep' hb6 hHeld.2.1, cell_keep' hb6 hHeld.2.2.1, trivial⟩
     clear hK K
     try simp only [Act.put, List.setIfInBounds_toArray, List.set_cons_zero, List.set_cons_succ]
     refine wpAnyH_ready (rs := [7]) (by kernel_rfl) (by simp) ?_
     refine AllReadyH.cons (o := ⟨some 32, _, _, _, _, _⟩) rfl (fun K hK => ?_) AllReadyH.nil
     have KW := Lib.hid (word_any HI6.out [⟨#[111, 110, 32]⟩, m.name, ⟨#[40]⟩, ⟨JT.toArray⟩, ⟨#[41, 32, 123]⟩] 5 #[.string ⟨#[111, 110, 32]⟩, .string m.name, .string ⟨#[40]⟩, .string ⟨JT.toArray⟩, .string ⟨#[41, 32, 123]⟩] ([111, 110, 32] ++ m.name.data.toList ++ [40] ++ JT ++ [41, 32, 123]) rfl rfl (by simp [flatB]) (by decide) (by have := HB2.out; omega) (by decide))
     go_simp
     with_reducible refine KW.out.mono ?_
     rintro e w6 ⟨rfl, hs, hk⟩
     have HI7 := Lib.hid (HI6.out.next hs hk)
     have HK7 := Lib.hid (HK6.out.trans hk)
     have HP7 := Lib.hid (hk.box HP6.out hpbb (by decide))
     have HX7 := Lib.hid (hk.box HX6.out hne (by decide))
     have u0 := cell_of_blkP HP7.out (j := 0) (u := .pointer (some ⟨b, 0, none⟩)) rfl
     have u1 := cell_of_blkP HX7.out (j := 0) (u := .string m.name) rfl
     have u2 := cell_of_blkP HX7.out (j := 1) (u := .slice px XN cx) rfl
     go_wp2_with fail
     refine hK.out _ _ ?_ (fun hHeld => ?_)
     ·exact ⟨u0, u1, u2, trivial⟩
     clear hK K
     try simp only [Act.put, List.setIfInBounds_toArray, List.set_cons_zero, List.set_cons_succ]
     refine wpAnyH_done (by kernel_rfl) ?_ _
     clear hHeld zp y0 y1 u1 u2 hs hk KW hb5 hb6
     have u3 := cell_of_blkP HX7.out (j := 2) (u := .slice py YN cy) rfl
     have KB := Lib.hid (HBD.out w6 _ HI7.out (by have := HB2.out; rw [List.length_append]; omega))
     go_wp2_with fail
     refine KB.out.mono ?_
     rintro e' w7 ⟨rfl, hs, hk⟩
     have HI8 := Lib.hid (HI7.out.next hs hk)
     have HK8 := Lib.hid (HK7.out.trans hk)
     have HP8 := Lib.hid (hk.box HP7.out hpbb (by decide))
     have v0 := cell_of_blkP HP8.out (j := 0) (u := .pointer (some ⟨b, 0, none⟩)) rfl
     clear hs hk u0 u3 KB
     have KW := Lib.hid (word_any HI8.out [⟨#[125]⟩] 1 #[.string ⟨#[125]⟩] [125] rfl rfl (by simp [flatB]) (by decide) (by have := HB2.out; rw [List.length_append, List.length_append]; omega) (by decide))
     go_wp2_with fail
     refine KW.out.mono ?_
     rintro e' w8 ⟨rfl, hs, hk⟩
     have HI9 := Lib.hid (HI8.out.next hs hk)
     have HK9 := Lib.hid (HK8.out.trans hk)
     clear hs hk v0 KW
     go_wp2_with fail
     go_roundg (MN - (i + 1))
     case measure => omega
     case rel =>
      refine ⟨i + 1, by go_num, by omega, rfl, ?_, HK9⟩
      have h1 := HI9.out
      rw [HMT.out]
      rw [← HL2.out] at h1
      simp only [List.append_assoc] at h1 ⊢
      exact h1
    ·obtain rfl : i = MN := by omega
     have hfull : c.methods.take i = c.methods := List.take_of_length_le (by rw [HMN.out]; exact Nat.le_refl _)
     rw [hfull] at HSQ
     clear hfull
     go_wp2_with fail
     go_end0
     exact ⟨rfl, by have h1 := HSQ.out.st; rw [← HL1.out, List.append_assoc] at h1; exact h1, HKQ.out⟩
end Go.Proofs.YtdckddkalgnlpaaGreatDoor
