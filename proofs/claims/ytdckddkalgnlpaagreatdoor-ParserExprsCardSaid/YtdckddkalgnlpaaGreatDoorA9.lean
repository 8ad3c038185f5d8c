/-
  Several texts in one: PaProgA, PaProgB, PaProgC.
-/
import Derived.Test.YtdckddkalgnlpaaGreatDoorA8
import Derived.Deep.RegionHeld3
import Derived.StillTailTactics
import Derived.WalkLawsBesides
import Derived.Maps.OwnSet
import Derived.StringKeys
import Derived.Deep.LoopGhost
namespace Go.Proofs.YtdckddkalgnlpaaGreatDoor
open Go.RowKit Pw
theorem field3 (a b c d : Value) (w : World) : (Instr.field 59 (.agg #[a, b, c, d]) 3).run Tryz.prog w = .ok d w := by kernel_rfl
theorem field0 (a b c d : Value) (w : World) : (Instr.field 59 (.agg #[a, b, c, d]) 0).run Tryz.prog w = .ok a w := by kernel_rfl
def tkV (t : Lex.Tok) : Value := .agg #[.int .i64 t.kind, .string ⟨t.text.toArray⟩, .int .i64 t.val, .int .i64 t.pos]
section
variable {L : List Lex.Tok} {n tbk tc P k : Nat} {w : World}
set_option maxRecDepth 100000 in
set_option maxHeartbeats 1000000 in
theorem next_any (hp : PS L n tbk tc P k w) (hL : Pa.TkL L n) {t : Lex.Tok} (ht : L[k]? = some t) :
 Calls Tryz.prog 57 #[.pointer (some ⟨P, 0, none⟩)] w fun e w' => e = .returned (tkV t) ∧ Below w.heap.size w w' := by
 have hb1 := below_box w (.cells #[.int .i64 0, .string ⟨#[]⟩, .int .i64 0, .int .i64 0] 59)
 have hp1 := hp.below hb1
 have hlt := hp.le
 have hfew := hL.few
 obtain ⟨t0, t1, t2, t3⟩ := hp1.toks k t ht
 have c0 := cell_of_blkP hp1.blk (j := 0) (u := .slice (some ⟨tbk, 0, none⟩) (n + 1) tc) rfl
 have c1 := cell_of_blkP hp1.blk (j := 1) (u := .int .i64 k) rfl
 have hR := new_at (w := w) (o := .cells #[.int .i64 0, .string ⟨#[]⟩, .int .i64 0, .int .i64 0] 59) rfl
 have b1 : (0 : Int) ≤ (k : Int) := by omega
 have b2 : (k : Int) < (n : Int) + 1 := by omega
 obtain ⟨w1, hw1⟩ : ∃ q, q = w.alloc (.cells #[.int .i64 0, .string ⟨#[]⟩, .int .i64 0, .int .i64 0] 59) := ⟨_, rfl⟩
 rw [← hw1] at hb1 t0 t1 t2 t3 c0 c1 hR
 have HB1 := Lib.hid hb1
 have HR := Lib.hid hR
 have HW1 := Lib.hid hw1
 clear hp hp1 hb1 hlt ht hR hw1 hfew
 go_enter Tryz.func57, Tryz.ntmps57
 go_upto_region 1 with fail
 rw [← HW1.out]
 refine wp_region_held_drew (S := fun W => W.cell? ⟨P, 0, none⟩ = some (.slice (some ⟨tbk, 0, none⟩) (n + 1) tc) ∧ W.cell? ⟨P, 1, none⟩ = some (.int .i64 k) ∧ W.cell? ⟨tbk, k * 4, none⟩ = some (.int .i64 t.kind) ∧ W.cell? ⟨tbk, k * 4 + 1, none⟩ = some (.string ⟨t.text.toArray⟩) ∧ W.cell? ⟨tbk, k * 4 + 2, none⟩ = some (.int .i64 t.val) ∧ W.cell? ⟨tbk, k * 4 + 3, none⟩ = some (.int .i64 t.pos) ∧ Hid (Below w1.heap.size w1 W)) (by kernel_rfl) ?_ (fun hHeld => ?_)
 ·exact ⟨c0, c1, t0, t1, t2, t3, Lib.hid (Below.refl w1.heap.size w1).drew⟩
 clear c0 c1 t0 t1 t2 t3
 refine wpAnyH_take (i := 0) (oi := ⟨some 3, _, _, _, _, _⟩) (v := ?_) rfl (by kernel_rfl) (by kernel_rfl) (by kernel_rfl) (fun _ _ _ h => h) (Or.inl ⟨by rfl, ?_⟩) (by assumption) ?_
 rotate_left
 ·(intro w hSw; (try dsimp only at hSw); go_simp; (try with_reducible rfl))
 try simp only [Act.put, List.setIfInBounds_toArray, List.set_cons_zero, List.set_cons_succ]
 refine wpAnyH_take (i := 1) (oi := ⟨some 4, _, _, _, _, _⟩) (v := ?_) rfl (by kernel_rfl) (by kernel_rfl) (by kernel_rfl) (fun _ _ _ h => h) (Or.inl ⟨by rfl, ?_⟩) (by assumption) ?_
 rotate_left
 ·(intro w hSw; (try dsimp only at hSw); go_simp; (try with_reducible rfl))
 try simp only [Act.put, List.setIfInBounds_toArray, List.set_cons_zero, List.set_cons_succ]
 refine wpAnyH_take (i := 2) (oi := ⟨some 5, _, _, _, _, _⟩) (v := ?_) rfl (by kernel_rfl) (by kernel_rfl) (by kernel_rfl) (fun _ _ _ h => h) (Or.inl ⟨by rfl, ?_⟩) (by assumption) ?_
 rotate_left
 ·(intro w hSw; (try dsimp only at hSw); go_simp; (try with_reducible rfl))
 try simp only [Act.put, List.setIfInBounds_toArray, List.set_cons_zero, List.set_cons_succ]
 refine wpAnyH_take (i := 3) (oi := ⟨some 6, _, _, _, _, _⟩) (v := ?_) rfl (by kernel_rfl) (by kernel_rfl) (by kernel_rfl) (fun _ _ _ h => h) (Or.inl ⟨by rfl, ?_⟩) (by assumption) ?_
 rotate_left
 ·(intro w hSw; (try dsimp only at hSw); go_simp; (try with_reducible rfl))
 try simp only [Act.put, List.setIfInBounds_toArray, List.set_cons_zero, List.set_cons_succ]
 refine wpAnyH_take (i := 4) (oi := ⟨some 7, _, _, _, _, _⟩) (v := ?_) rfl (by kernel_rfl) (by kernel_rfl) (by kernel_rfl) (fun _ _ _ h => h) (Or.inl ⟨by rfl, ?_⟩) (by assumption) ?_
 rotate_left
 ·(intro w hSw; (try dsimp only at hSw); go_simp; (try with_reducible rfl))
 try simp only [Act.put, List.setIfInBounds_toArray, List.set_cons_zero, List.set_cons_succ]
 refine wpAnyH_take (i := 5) (oi := ⟨some 8, _, _, _, _, _⟩) (v := ?_) rfl (by kernel_rfl) (by kernel_rfl) (by kernel_rfl) (fun _ _ _ h => h) (Or.inl ⟨by rfl, ?_⟩) (by assumption) ?_
 rotate_left
 ·(intro w hSw; (try dsimp only at hSw); go_simp; (try with_reducible rfl))
 try simp only [Act.put, List.setIfInBounds_toArray, List.set_cons_zero, List.set_cons_succ]
 refine wpAnyH_take (i := 6) (oi := ⟨some 9, _, _, _, _, _⟩) (v := ?_) rfl (by kernel_rfl) (by kernel_rfl) (by kernel_rfl) (fun _ _ _ h => h) (Or.inl ⟨by rfl, ?_⟩) (by assumption) ?_
 rotate_left
 ·(intro w hSw; (try dsimp only at hSw); go_simp; (try with_reducible rfl))
 try simp only [Act.put, List.setIfInBounds_toArray, List.set_cons_zero, List.set_cons_succ]
 refine wpAnyH_take (i := 7) (oi := ⟨some 10, _, _, _, _, _⟩) (v := ?_) rfl (by kernel_rfl) (by kernel_rfl) (by kernel_rfl) (fun _ _ _ h => h) (Or.inl ⟨by rfl, ?_⟩) (by assumption) ?_
 rotate_left
 ·(intro w hSw; (try dsimp only at hSw); go_simp; (try with_reducible rfl))
 try simp only [Act.put, List.setIfInBounds_toArray, List.set_cons_zero, List.set_cons_succ]
 refine wpAnyH_take (i := 8) (oi := ⟨some 11, _, _, _, _, _⟩) (v := ?_) rfl (by kernel_rfl) (by kernel_rfl) (by kernel_rfl) (fun _ _ _ h => h) (Or.inl ⟨by rfl, ?_⟩) (by assumption) ?_
 rotate_left
 ·(intro w hSw; (try dsimp only at hSw); go_simp; (try with_reducible rfl))
 try simp only [Act.put, List.setIfInBounds_toArray, List.set_cons_zero, List.set_cons_succ]
 refine wpAnyH_take (i := 9) (oi := ⟨some 12, _, _, _, _, _⟩) (v := ?_) rfl (by kernel_rfl) (by kernel_rfl) (by kernel_rfl) (fun _ _ _ h => h) (Or.inl ⟨by rfl, ?_⟩) (by assumption) ?_
 rotate_left
 ·(intro w hSw; (try dsimp only at hSw); go_simp; (try with_reducible rfl))
 try simp only [Act.put, List.setIfInBounds_toArray, List.set_cons_zero, List.set_cons_succ]
 refine wpAnyH_done (by kernel_rfl) ?_ _
 have HZ := Lib.hid hHeld.2.2.2.2.2.2.out
 have c0 := hHeld.1
 have c1 := hHeld.2.1
 have t0 := hHeld.2.2.1
 have t1 := hHeld.2.2.2.1
 have t2 := hHeld.2.2.2.2.1
 have t3 := hHeld.2.2.2.2.2.1
 clear hHeld
 obtain ⟨w2, hw2⟩ : ∃ q, q = w1.drew := ⟨_, rfl⟩
 have hR2 := (HZ.out.block w.heap.size (lt_of_block HR.out)).trans HR.out
 rw [← hw2] at HZ hR2 c0 c1 t0 t1 t2 t3 ⊢
 clear hw2
 have r0 := cell_of_blkP hR2 (j := 0) (u := .int .i64 0) rfl
 have r1 := cell_of_blkP hR2 (j := 1) (u := .string ⟨#[]⟩) rfl
 have r2 := cell_of_blkP hR2 (j := 2) (u := .int .i64 0) rfl
 have r3 := cell_of_blkP hR2 (j := 3) (u := .int .i64 0) rfl
 have f0 := blk_free hR2 0
 have f1 := blk_free hR2 1
 have f2 := blk_free hR2 2
 have f3 := blk_free hR2 3
 have HR2 := Lib.hid hR2
 clear hR2
 go_upto_region 2 with fail
 go_still_tail 10, (by kernel_rfl)
 change wpList _ _ _ _ _ w2.drew
 clear c0 c1 t0 t1 t2 t3
 go_wp2_with fail
 have hS := set4_blk (.int .i64 t.kind) (.string ⟨t.text.toArray⟩) (.int .i64 t.val) (.int .i64 t.pos) HR2.out
 refine bodyPost_ret (v := tkV t) (results_cell_row Tryz.results57 _ _ w.heap.size _ _ _ _ rfl hS Tryz.underlying59 rfl (by kernel_rfl)) rfl ⟨rfl, ?_⟩
 exact gr_fresh (gr_drew (gr_new (gr_below (below_next HB1.out HZ.out) none) (set4_gr w2 w.heap.size _ _ _ _) (Nat.le_refl _)))
set_option maxRecDepth 100000 in
set_option maxHeartbeats 1000000 in
theorem fail_any (hp : PS L n tbk tc P k w) (hL : Pa.TkL L n) {t : Lex.Tok} (ht : L[k]? = some t) :
 Calls Tryz.prog 58 #[.pointer (some ⟨P, 0, none⟩)] w fun e w' => e = .panicked (failV t.pos) ∧ Below w.heap.size w w' := by
 have K := Lib.hid (next_any hp hL ht)
 have hfl := field3
 clear hp hL ht
 go_enter Tryz.func58, Tryz.ntmps58
 go_wp2_with fail
 refine K.out.mono ?_
 rintro e w1 ⟨rfl, hb1⟩
 unfold tkV
 have HB := Lib.hid hb1
 clear hb1
 go_wp2_with fail
 exact ⟨rfl, rfl, HB.out⟩
set_option maxRecDepth 100000 in
set_option maxHeartbeats 1000000 in
theorem is_other (hp : PS L n tbk tc P k w) (hL : Pa.TkL L n) {t : Lex.Tok} (ht : L[k]? = some t) (s : ByteArray) (hs : ¬ t.text = s.data.toList) :
 Calls Tryz.prog 59 #[.pointer (some ⟨P, 0, none⟩), .string s] w fun e w' => e = .returned (.bool false) ∧ Below w.heap.size w w' := by
 have K := Lib.hid (next_any hp hL ht)
 clear hp hL ht
 have hne : ¬ t.text = s.toList := by rw [Lib.toList_data]; exact hs
 have hne2 : (t.text == s.toList) = false := beq_eq_false_iff_ne.2 hne
 clear hs
 go_enter Tryz.func59, Tryz.ntmps59
 go_wp2_with fail
 refine K.out.mono ?_
 rintro e w1 ⟨rfl, hb1⟩
 unfold tkV
 have HB := Lib.hid hb1
 clear hb1
 go_wp2_with fail
 go_ret
 exact ⟨rfl, HB.out.alloc HB.out.size _⟩
set_option maxRecDepth 100000 in
set_option maxHeartbeats 1000000 in
theorem is_none (hp : PS L n tbk tc P k w) (hL : Pa.TkL L n) {t : Lex.Tok} (ht : L[k]? = some t) (s : ByteArray) (hs : (⟨t.text.toArray⟩ : ByteArray) = s) (h4 : ((t.kind : Int) == 4) = false) (h5 : ((t.kind : Int) == 5) = false) :
 Calls Tryz.prog 59 #[.pointer (some ⟨P, 0, none⟩), .string s] w fun e w' => e = .returned (.bool false) ∧ Below w.heap.size w w' := by
 have K := Lib.hid (next_any hp hL ht)
 clear hp hL ht
 subst hs
 go_enter Tryz.func59, Tryz.ntmps59
 go_wp2_with fail
 refine K.out.mono ?_
 rintro e w1 ⟨rfl, hb1⟩
 unfold tkV
 have HB := Lib.hid hb1
 clear hb1
 go_wp2_with fail
 go_ret
 exact ⟨rfl, HB.out.alloc HB.out.size _⟩
set_option maxRecDepth 100000 in
set_option maxHeartbeats 1000000 in
theorem is_word (hp : PS L n tbk tc P k w) (hL : Pa.TkL L n) {t : Lex.Tok} (ht : L[k]? = some t) (s : ByteArray) (hs : (⟨t.text.toArray⟩ : ByteArray) = s) (h4 : ((t.kind : Int) == 4) = true) :
 Calls Tryz.prog 59 #[.pointer (some ⟨P, 0, none⟩), .string s] w fun e w' => e = .returned (.bool true) ∧ Below w.heap.size w w' := by
 have K := Lib.hid (next_any hp hL ht)
 clear hp hL ht
 subst hs
 go_enter Tryz.func59, Tryz.ntmps59
 go_wp2_with fail
 refine K.out.mono ?_
 rintro e w1 ⟨rfl, hb1⟩
 unfold tkV
 have HB := Lib.hid hb1
 clear hb1
 go_wp2_with fail
 go_ret
 exact ⟨rfl, HB.out.alloc HB.out.size _⟩
set_option maxRecDepth 100000 in
set_option maxHeartbeats 1000000 in
theorem is_sym (hp : PS L n tbk tc P k w) (hL : Pa.TkL L n) {t : Lex.Tok} (ht : L[k]? = some t) (s : ByteArray) (hs : (⟨t.text.toArray⟩ : ByteArray) = s) (h4 : ((t.kind : Int) == 4) = false) (h5 : ((t.kind : Int) == 5) = true) :
 Calls Tryz.prog 59 #[.pointer (some ⟨P, 0, none⟩), .string s] w fun e w' => e = .returned (.bool true) ∧ Below w.heap.size w w' := by
 have K := Lib.hid (next_any hp hL ht)
 clear hp hL ht
 subst hs
 go_enter Tryz.func59, Tryz.ntmps59
 go_wp2_with fail
 refine K.out.mono ?_
 rintro e w1 ⟨rfl, hb1⟩
 unfold tkV
 have HB := Lib.hid hb1
 clear hb1
 go_wp2_with fail
 go_ret
 exact ⟨rfl, HB.out.alloc HB.out.size _⟩
theorem kind_beq (a b : Nat) : ((a : Int) == (b : Int)) = (a == b) := by
 by_cases h : a = b
 ·subst h; simp
 ·rw [beq_eq_false_iff_ne.2 h, beq_eq_false_iff_ne.2 (by omega)]
theorem is_any (hp : PS L n tbk tc P k w) (hL : Pa.TkL L n) (s : ByteArray) (hs : s.data.toList ≠ []) :
 Calls Tryz.prog 59 #[.pointer (some ⟨P, 0, none⟩), .string s] w fun e w' => e = .returned (.bool (Pa.is s.data.toList (Pa.rest L n k))) ∧ Below w.heap.size w w' := by
 obtain ⟨t, ht⟩ := hL.get hp.le
 rw [Pa.is_at hL hp.le ht _ hs]
 by_cases hx : t.text = s.data.toList
 ·have e : (⟨t.text.toArray⟩ : ByteArray) = s := by rw [hx]
  rw [beq_iff_eq.2 hx, Bool.true_and]
  have k4 := kind_beq t.kind 4
  have k5 := kind_beq t.kind 5
  cases h4 : (t.kind == 4) with
  | true => exact is_word hp hL ht s e (k4.trans h4)
  | false =>
    cases h5 : (t.kind == 5) with
    | true => exact is_sym hp hL ht s e (k4.trans h4) (k5.trans h5)
    | false => exact is_none hp hL ht s e (k4.trans h4) (k5.trans h5)
 ·rw [beq_eq_false_iff_ne.2 hx]
  exact is_other hp hL ht s hx
set_option maxRecDepth 100000 in
set_option maxHeartbeats 1000000 in
theorem take_no (hp : PS L n tbk tc P k w) (hL : Pa.TkL L n) (s : ByteArray) (hs : s.data.toList ≠ []) (h : Pa.is s.data.toList (Pa.rest L n k) = false) :
 Calls Tryz.prog 108 #[.pointer (some ⟨P, 0, none⟩), .string s] w fun e w' => e = .returned (.bool false) ∧ Below w.heap.size w w' := by
 have K := is_any hp hL s hs
 rw [h] at K
 have K := Lib.hid K
 clear hp hL hs h
 go_enter Tryz.func108, Tryz.ntmps108
 go_wp2_with fail
 refine K.out.mono ?_
 rintro e w1 ⟨rfl, hb1⟩
 have HB := Lib.hid hb1
 clear hb1
 go_wp2_with fail
 go_ret
 exact ⟨rfl, HB.out⟩
set_option maxRecDepth 100000 in
set_option maxHeartbeats 1000000 in
theorem take_yes (hp : PS L n tbk tc P k w) (hL : Pa.TkL L n) (s : ByteArray) (hs : s.data.toList ≠ []) (h : Pa.is s.data.toList (Pa.rest L n k) = true) :
 Calls Tryz.prog 108 #[.pointer (some ⟨P, 0, none⟩), .string s] w fun e w' => e = .returned (.bool true) ∧ w.grownBy w' (some P) ∧ PS L n tbk tc P (k + 1) w' := by
 have K := is_any hp hL s hs
 rw [h] at K
 have K := Lib.hid K
 have hlt := Pa.is_lt hp.le h
 have hfew := hL.few
 have HPS := Lib.hid hp
 clear hp hL hs h
 go_enter Tryz.func108, Tryz.ntmps108
 go_wp2_with fail
 refine K.out.mono ?_
 rintro e w1 ⟨rfl, hb1⟩
 have hp := HPS.out.below hb1
 have HB := Lib.hid hb1
 clear hb1
 have c1 := cell_of_blkP hp.blk (j := 1) (u := .int .i64 k) rfl
 have f1 := blk_free hp.blk 1
 have HP1 := Lib.hid hp
 clear hp
 go_wp2_with fail
 go_ret
 exact ⟨rfl, gr_trans (gr_below HB.out _) (gr_set _ _ _ _), by have h2 := HP1.out.set (k' := k + 1) hlt; rw [Int.natCast_succ] at h2; exact h2⟩
set_option maxRecDepth 100000 in
set_option maxHeartbeats 1000000 in
theorem word_no (hp : PS L n tbk tc P k w) (hL : Pa.TkL L n) {t : Lex.Tok} (ht : L[k]? = some t) (K : Nat) (h : t.kind ≠ K) :
 Calls Tryz.prog 106 #[.pointer (some ⟨P, 0, none⟩), .int .i64 K] w fun e w' => e = .panicked (failV t.pos) ∧ Below w.heap.size w w' := by
 have hne : ((t.kind : Int) != (K : Int)) = true := by rw [bne, kind_beq, beq_eq_false_iff_ne.2 h, Bool.not_false]
 have HK := Lib.hid (next_any hp hL ht)
 have HF : Hid (∀ W, Below w.heap.size w W → Calls Tryz.prog 58 #[.pointer (some ⟨P, 0, none⟩)] W fun e w' => e = .panicked (failV t.pos) ∧ Below W.heap.size W w') := fun W hb => fail_any (hp.below hb) hL ht
 clear hp hL ht h
 go_enter Tryz.func106, Tryz.ntmps106
 go_wp2_with fail
 refine HK.out.mono ?_
 rintro e w1 ⟨rfl, hb1⟩
 unfold tkV
 have HB := Lib.hid (hb1.alloc hb1.size (.cells #[.int .i64 t.kind, .string ⟨t.text.toArray⟩, .int .i64 t.val, .int .i64 t.pos] 59))
 clear hb1
 go_wp2_with fail
 refine (HF.out _ HB.out).mono ?_
 rintro e w2 ⟨rfl, hb2⟩
 go_wp2_with fail
 exact ⟨rfl, rfl, below_next HB.out hb2⟩
set_option maxRecDepth 100000 in
set_option maxHeartbeats 1000000 in
theorem word_yes (hp : PS L n tbk tc P k w) (hL : Pa.TkL L n) {t : Lex.Tok} (ht : L[k]? = some t) (hlt : k < n) :
 Calls Tryz.prog 106 #[.pointer (some ⟨P, 0, none⟩), .int .i64 t.kind] w fun e w' => e = .returned (.string ⟨t.text.toArray⟩) ∧ w.grownBy w' (some P) ∧ PS L n tbk tc P (k + 1) w' := by
 have HK := Lib.hid (next_any hp hL ht)
 have hfew := hL.few
 have HPS := Lib.hid hp
 have hplt := hp.plt
 clear hp hL ht
 go_enter Tryz.func106, Tryz.ntmps106
 go_wp2_with fail
 refine HK.out.mono ?_
 rintro e w1 ⟨rfl, hb1⟩
 unfold tkV
 have HB := Lib.hid (hb1.alloc hb1.size (.cells #[.int .i64 t.kind, .string ⟨t.text.toArray⟩, .int .i64 t.val, .int .i64 t.pos] 59))
 have hsz := hb1.size
 clear hb1
 have hp := HPS.out.below HB.out
 have c1 := cell_of_blkP hp.blk (j := 1) (u := .int .i64 k) rfl
 have f1 := blk_free hp.blk 1
 have HP1 := Lib.hid hp
 clear hp
 go_wp2_with fail
 go_ret
 exact ⟨rfl, gr_trans (gr_below HB.out _) (gr_set _ _ _ _), by have h2 := HP1.out.set (k' := k + 1) hlt; rw [Int.natCast_succ] at h2; exact h2⟩
end
end Go.Proofs.YtdckddkalgnlpaaGreatDoor
namespace Go.Proofs.YtdckddkalgnlpaaGreatDoor
open Go.RowKit Go.Maps Pw
section
variable {L : List Lex.Tok} {n tbk tc P k : Nat} {w : World}
set_option maxRecDepth 100000 in
set_option maxHeartbeats 2000000 in
theorem name_yes (hp : PS L n tbk tc P k w) (hL : Pa.TkL L n) {t : Lex.Tok} (ht : L[k]? = some t) (hlt : k < n) (h : t.kind = 2) :
 Calls Tryz.prog 109 #[.pointer (some ⟨P, 0, none⟩)] w fun e w' => e = .returned (.string ⟨t.text.toArray⟩) ∧ w.grownBy w' (some P) ∧ PS L n tbk tc P (k + 1) w' := by
 have K := word_yes hp hL ht hlt
 rw [h] at K
 have K := Lib.hid K
 clear hp hL ht hlt h
 go_enter Tryz.func109, Tryz.ntmps109
 go_wp2_with fail
 refine K.out.mono ?_
 rintro e w1 ⟨rfl, h1, h2⟩
 have H1 := Lib.hid h1
 have H2 := Lib.hid h2
 clear h1 h2
 go_wp2_with fail
 go_ret
 exact ⟨rfl, H1.out, H2.out⟩
set_option maxRecDepth 100000 in
set_option maxHeartbeats 2000000 in
theorem name_no (hp : PS L n tbk tc P k w) (hL : Pa.TkL L n) {t : Lex.Tok} (ht : L[k]? = some t) (h : t.kind ≠ 2) :
 Calls Tryz.prog 109 #[.pointer (some ⟨P, 0, none⟩)] w fun e w' => e = .panicked (failV t.pos) ∧ Below w.heap.size w w' := by
 have K := Lib.hid (word_no hp hL ht 2 h)
 clear hp hL ht h
 go_enter Tryz.func109, Tryz.ntmps109
 go_wp2_with fail
 refine K.out.mono ?_
 rintro e w1 ⟨rfl, h1⟩
 have H1 := Lib.hid h1
 clear h1
 go_wp2_with fail
 exact ⟨rfl, rfl, H1.out⟩
set_option maxRecDepth 100000 in
set_option maxHeartbeats 2000000 in
theorem expect_yes (hp : PS L n tbk tc P k w) (hL : Pa.TkL L n) (s : ByteArray) (hs : s.data.toList ≠ []) (h : Pa.is s.data.toList (Pa.rest L n k) = true) (g : Nat) (hg : w.cell? ⟨g, 0, none⟩ = some (.string s)) :
 Calls Tryz.prog 107 #[.pointer (some ⟨P, 0, none⟩), .slice (some ⟨g, 0, none⟩) 1 1] w fun e w' => e = .returned (.tuple #[]) ∧ w.grownBy w' (some P) ∧ PS L n tbk tc P (k + 1) w' := by
 have HT : Hid (∀ W, Below w.heap.size w W → Calls Tryz.prog 108 #[.pointer (some ⟨P, 0, none⟩), .string s] W fun e w' => e = .returned (.bool true) ∧ W.grownBy w' (some P) ∧ PS L n tbk tc P (k + 1) w') := fun W hb => take_yes (hp.below hb) hL s hs h
 have HG := Lib.hid hg
 have hgl := cell_lt' hg
 have HPS := Lib.hid hp
 clear hp hL hs h
 go_enter Tryz.func107, Tryz.ntmps107
 go_wp2_with fail
 go_loopg [5, 8] 1 (fun gg s5 s8 wr => ∃ j : Nat, s8 = .int .i64 j ∧ j ≤ 1 ∧ gg = 1 - j ∧ Hid (j = 0 → wr = w) ∧ Hid (PS L n tbk tc P (k + j) wr) ∧ Hid (w.grownBy wr (some P)))
 case atStart => exact ⟨0, rfl, by omega, rfl, Lib.hid fun _ => rfl, HPS, Lib.hid (gr_refl _ _)⟩
 case round =>
  obtain ⟨j, rfl, hj, rfl, HW, HP1, HG1⟩ := hrel
  by_cases hlt : j < 1
  ·obtain rfl : j = 0 := by omega
   obtain rfl := HW.out rfl
   clear hj hlt
   have hg := HG.out
   go_wp2_with fail
   refine (HT.out _ (Below.refl _ _)).mono ?_
   rintro e w1 ⟨rfl, h1, h2⟩
   have H1 := Lib.hid h1
   have H2 := Lib.hid h2
   clear h1 h2 hg
   go_wp2_with fail
   go_roundg 0
   case measure => omega
   case rel => exact ⟨1, by go_num, by omega, rfl, Lib.hid fun h => absurd h (by decide), H2, H1⟩
  ·obtain rfl : j = 1 := by omega
   clear hj hlt
   go_wp2_with fail
   go_end0
   exact ⟨rfl, HG1.out, HP1.out⟩
set_option maxRecDepth 100000 in
set_option maxHeartbeats 2000000 in
theorem expect_no (hp : PS L n tbk tc P k w) (hL : Pa.TkL L n) (s : ByteArray) (hs : s.data.toList ≠ []) (h : Pa.is s.data.toList (Pa.rest L n k) = false) (g : Nat) (hg : w.cell? ⟨g, 0, none⟩ = some (.string s)) {t : Lex.Tok} (ht : L[k]? = some t) :
 Calls Tryz.prog 107 #[.pointer (some ⟨P, 0, none⟩), .slice (some ⟨g, 0, none⟩) 1 1] w fun e w' => e = .panicked (failV t.pos) ∧ Below w.heap.size w w' := by
 have HT : Hid (∀ W, Below w.heap.size w W → Calls Tryz.prog 108 #[.pointer (some ⟨P, 0, none⟩), .string s] W fun e w' => e = .returned (.bool false) ∧ Below W.heap.size W w') := fun W hb => take_no (hp.below hb) hL s hs h
 have HG := Lib.hid hg
 have hgl := cell_lt' hg
 have HF : Hid (∀ W, Below w.heap.size w W → Calls Tryz.prog 58 #[.pointer (some ⟨P, 0, none⟩)] W fun e w' => e = .panicked (failV t.pos) ∧ Below W.heap.size W w') := fun W hb => fail_any (hp.below hb) hL ht
 have HPS := Lib.hid hp
 clear hp hL hs h ht
 go_enter Tryz.func107, Tryz.ntmps107
 go_wp2_with fail
 go_loopg [5, 8] 1 (fun gg s5 s8 wr => s8 = .int .i64 (0 : Nat) ∧ gg = 1 ∧ Hid (wr = w))
 case atStart => exact ⟨rfl, rfl, Lib.hid rfl⟩
 case round =>
  obtain ⟨rfl, rfl, HW⟩ := hrel
  obtain rfl := HW.out
  have hg := HG.out
  go_wp2_with fail
  refine (HT.out _ (Below.refl _ _)).mono ?_
  rintro e w1 ⟨rfl, h1⟩
  have H1 := Lib.hid h1
  clear h1 hg
  go_wp2_with fail
  refine (HF.out _ H1.out).mono ?_
  rintro e w2 ⟨rfl, h2⟩
  go_wp2_with fail
  exact ⟨rfl, rfl, below_next H1.out h2⟩
set_option maxRecDepth 100000 in
set_option maxHeartbeats 2000000 in
theorem binaryP_any (op : Int) (x y : Tr.E) (a b : Value) (w : World) :
 Calls Tryz.prog 122 #[.int .i64 op, exprV x a, exprV y b] w fun e w' => ∃ g, e = .returned (.agg #[.int .i64 10, .int .i64 op, .int .i64 0, .string ⟨#[]⟩, .bool false, .slice (some ⟨g, 0, none⟩) 2 2]) ∧ w.heap.size ≤ g ∧ w'.heap[g]? = some (.cells #[.int .i64 x.kind, .int .i64 x.op, .int .i64 x.int, .string x.name, .bool x.at_, a, .int .i64 y.kind, .int .i64 y.op, .int .i64 y.int, .string y.name, .bool y.at_, b] 33 (0, 0)) ∧ Below w.heap.size w w' := by
 unfold exprV
 go_enter Tryz.func122, Tryz.ntmps122
 go_wp2
 have h3 : ((((w.alloc (.cells #[.int .i64 x.kind, .int .i64 x.op, .int .i64 x.int, .string x.name, .bool x.at_, a] 33)).alloc (.cells #[.int .i64 y.kind, .int .i64 y.op, .int .i64 y.int, .string y.name, .bool y.at_, b] 33)).alloc (.cells #[.int .i64 10, .int .i64 op, .int .i64 0, .string ⟨#[]⟩, .bool false, .slice (some ⟨w.heap.size + 1 + 1 + 1, 0, none⟩) 2 2] 33)).alloc (.cells #[.int .i64 x.kind, .int .i64 x.op, .int .i64 x.int, .string x.name, .bool x.at_, a, .int .i64 y.kind, .int .i64 y.op, .int .i64 y.int, .string y.name, .bool y.at_, b] 33)).heap[w.heap.size + 1 + 1]? = some (.cells #[.int .i64 10, .int .i64 op, .int .i64 0, .string ⟨#[]⟩, .bool false, .slice (some ⟨w.heap.size + 1 + 1 + 1, 0, none⟩) 2 2] 33 (0, 0)) := (Below.heap_alloc _ _ _ (by simp only [World.size_alloc]; omega)).trans (new_at (by simp))
 refine bodyPost_ret (v := .agg #[.int .i64 10, .int .i64 op, .int .i64 0, .string ⟨#[]⟩, .bool false, .slice (some ⟨w.heap.size + 1 + 1 + 1, 0, none⟩) 2 2]) (results_cell_row Tryz.results122 _ _ (w.heap.size + 1 + 1) _ _ _ _ rfl h3 Tryz.underlying33 rfl (by kernel_rfl)) rfl ⟨_, rfl, by omega, new_at (by simp), ?_⟩
 exact (((below_box w _).alloc (by simp) _).alloc (by simp <;> omega) _).alloc (by simp <;> omega) _
def symB (o : Int) : ByteArray := ⟨(Sy.sym o).toArray⟩
def skl (s : ByteArray) : Lit := .string s.data.toList
theorem keyStr : Keyed Tryz.prog 9 := string_keyed Tryz.underlying9
theorem keyOfStr (s : ByteArray) (hs : s.size ≤ maxLen) : keyOf Tryz.prog 9 (.string s) = some (skl s) := WideMaps.keyOf_string_mk Tryz.underlying9 hs
def opD : Nat → DataW Unit
 | 0 => DataW.map []
 | o + 1 => (opD o).put (skl (symB o)) (.lit (.int .i64 o))
theorem intZero (w : World) : (zeroValue 3).run Tryz.prog w = .ok (.int .i64 0) w := by kernel_rfl
theorem wpList_insert_ownP {H : Type} {P : Program} (w : World) {ops : Array Oper} {rest : List Oper} {o : Oper} {a : Act} {Q : Exit → Act → World → Prop}
 (hg : o.guard = none) (m x v : Operand) (t : TypeId) (hop : o.op = Op.insert t m x v)
 (k e : TypeId) (K : Keyed P k) (ht : P.underlying t = some (.map k e)) (R : Value → Option (DataW H × List MemPlace)) (b n : Nat) (D : DataW H)
 (hm : a.eval m = .map (some b)) (hown : w.ownsMap P k R b n D) (hn : n < maxLen) (key val : Value) (kl : Lit) (hx : a.eval x = key) (hv : a.eval v = val) (hkey : keyOf P k key = some kl)
 (d : DataW H) (ps : List MemPlace) (hval : R val = some (d, ps))
 (hK : ∀ w', w'.ownsMap P k R b (n + 1) (D.put kl d) → w.grownBy w' (some b) → wpList P ops Q rest (a.put o.dst undef) w') :
 wpList P ops Q (o :: rest) a w := by
 refine wpList_plain hg fun K' hK' => ?_
 obtain ⟨w', hrun, r1, r2⟩ := hown.update K ht hn hkey hval
 unfold Oper.wp
 simp [execOp, hop, hm, hx, hv, hrun, Result.andThen]
 exact hK' _ _ (hK w' r1 r2)
theorem op_at0 : (opD 13).atKey (skl (symB 0)) (.lit (.int .i64 0)) = .lit (.int .i64 0) := by kernel_rfl
theorem op_at1 : (opD 13).atKey (skl (symB 1)) (.lit (.int .i64 0)) = .lit (.int .i64 1) := by kernel_rfl
theorem op_at2 : (opD 13).atKey (skl (symB 2)) (.lit (.int .i64 0)) = .lit (.int .i64 2) := by kernel_rfl
theorem op_at3 : (opD 13).atKey (skl (symB 3)) (.lit (.int .i64 0)) = .lit (.int .i64 3) := by kernel_rfl
theorem op_at4 : (opD 13).atKey (skl (symB 4)) (.lit (.int .i64 0)) = .lit (.int .i64 4) := by kernel_rfl
theorem op_at5 : (opD 13).atKey (skl (symB 5)) (.lit (.int .i64 0)) = .lit (.int .i64 5) := by kernel_rfl
theorem op_at6 : (opD 13).atKey (skl (symB 6)) (.lit (.int .i64 0)) = .lit (.int .i64 6) := by kernel_rfl
theorem op_at7 : (opD 13).atKey (skl (symB 7)) (.lit (.int .i64 0)) = .lit (.int .i64 7) := by kernel_rfl
theorem op_at8 : (opD 13).atKey (skl (symB 8)) (.lit (.int .i64 0)) = .lit (.int .i64 8) := by kernel_rfl
theorem op_at9 : (opD 13).atKey (skl (symB 9)) (.lit (.int .i64 0)) = .lit (.int .i64 9) := by kernel_rfl
theorem op_at10 : (opD 13).atKey (skl (symB 10)) (.lit (.int .i64 0)) = .lit (.int .i64 10) := by kernel_rfl
theorem op_at11 : (opD 13).atKey (skl (symB 11)) (.lit (.int .i64 0)) = .lit (.int .i64 11) := by kernel_rfl
theorem op_at12 : (opD 13).atKey (skl (symB 12)) (.lit (.int .i64 0)) = .lit (.int .i64 12) := by kernel_rfl
theorem op_cases {o : Nat} (h : o ≤ 12) : o = 0 ∨ o = 1 ∨ o = 2 ∨ o = 3 ∨ o = 4 ∨ o = 5 ∨ o = 6 ∨ o = 7 ∨ o = 8 ∨ o = 9 ∨ o = 10 ∨ o = 11 ∨ o = 12 := by omega
theorem op_at (o : Nat) (ho : o ≤ 12) : (opD 13).atKey (skl (symB o)) (.lit (.int .i64 0)) = .lit (.int .i64 o) := by
 rcases op_cases ho with rfl | rfl | rfl | rfl | rfl | rfl | rfl | rfl | rfl | rfl | rfl | rfl | rfl
 ·exact op_at0
 ·exact op_at1
 ·exact op_at2
 ·exact op_at3
 ·exact op_at4
 ·exact op_at5
 ·exact op_at6
 ·exact op_at7
 ·exact op_at8
 ·exact op_at9
 ·exact op_at10
 ·exact op_at11
 ·exact op_at12
def OpsAt (W : World) (M : Nat) : Prop := W.ownsMap Tryz.prog 9 (plainElem Tryz.prog 3) M 13 (opD 13)
theorem symB_size {o : Nat} (h : o ≤ 12) : (symB o).size ≤ 3 := by
 rcases op_cases h with rfl | rfl | rfl | rfl | rfl | rfl | rfl | rfl | rfl | rfl | rfl | rfl | rfl <;> decide
theorem symB_ne {o : Nat} (h : o ≤ 12) : (symB o).data.toList ≠ [] := by
 rcases op_cases h with rfl | rfl | rfl | rfl | rfl | rfl | rfl | rfl | rfl | rfl | rfl | rfl | rfl <;> decide
set_option maxRecDepth 100000 in
theorem ops_look {W : World} {M : Nat} (h : OpsAt W M) (o : Nat) (ho : o ≤ 12) : (Instr.lookup 170 (.map (some M)) (.string (symB o)) false).run Tryz.prog W = .ok (.int .i64 o) W := by
 obtain ⟨c, hrun, hat, _⟩ := World.ownsMap.lookup_int h keyStr Tryz.underlying170 Tryz.underlying3 (intZero W) (keyOfStr (symB o) (Nat.le_trans (symB_size ho) (by decide)))
 have h2 := (op_at o ho).symm.trans hat
 injection h2 with h2
 injection h2 with _ h2
 rw [hrun, ← h2]
set_option maxRecDepth 100000 in
set_option maxHeartbeats 4000000 in
theorem operators_any (w : World) :
 Calls Tryz.prog 157 #[] w fun e w' => ∃ M, e = .returned (.map (some M)) ∧ OpsAt w' M ∧ Below w.heap.size w w' := by
 have hmk := @run_makeMap Tryz.prog
 go_enter Tryz.func157, Tryz.ntmps157
 go_wp2_with (first
  | (refine wpList_insert_ownP _ rfl _ _ _ 170 rfl 9 3 keyStr Tryz.underlying170 (plainElem Tryz.prog 3) w.heap.size 12 (opD 12) rfl HO12.out (by unfold maxLen; omega) (.string ⟨#[111, 114]⟩) (.int .i64 12) (skl (symB 12)) rfl rfl (keyOfStr ⟨#[111, 114]⟩ (by decide)) (.lit (.int .i64 12)) [] (plainElem_int Tryz.underlying3 (by decide)) ?_; intro w13 ho hg; have HO13 : Hid (w13.ownsMap Tryz.prog 9 (plainElem Tryz.prog 3) w.heap.size 13 (opD 13)) := Lib.hid ho; have HG13 := Lib.hid (gr_new HG12.out hg (Nat.le_refl _)); clear ho hg)
  | (refine wpList_insert_ownP _ rfl _ _ _ 170 rfl 9 3 keyStr Tryz.underlying170 (plainElem Tryz.prog 3) w.heap.size 11 (opD 11) rfl HO11.out (by unfold maxLen; omega) (.string ⟨#[97, 110, 100]⟩) (.int .i64 11) (skl (symB 11)) rfl rfl (keyOfStr ⟨#[97, 110, 100]⟩ (by decide)) (.lit (.int .i64 11)) [] (plainElem_int Tryz.underlying3 (by decide)) ?_; intro w12 ho hg; have HO12 : Hid (w12.ownsMap Tryz.prog 9 (plainElem Tryz.prog 3) w.heap.size 12 (opD 12)) := Lib.hid ho; have HG12 := Lib.hid (gr_new HG11.out hg (Nat.le_refl _)); clear ho hg)
  | (refine wpList_insert_ownP _ rfl _ _ _ 170 rfl 9 3 keyStr Tryz.underlying170 (plainElem Tryz.prog 3) w.heap.size 10 (opD 10) rfl HO10.out (by unfold maxLen; omega) (.string ⟨#[62, 61]⟩) (.int .i64 10) (skl (symB 10)) rfl rfl (keyOfStr ⟨#[62, 61]⟩ (by decide)) (.lit (.int .i64 10)) [] (plainElem_int Tryz.underlying3 (by decide)) ?_; intro w11 ho hg; have HO11 : Hid (w11.ownsMap Tryz.prog 9 (plainElem Tryz.prog 3) w.heap.size 11 (opD 11)) := Lib.hid ho; have HG11 := Lib.hid (gr_new HG10.out hg (Nat.le_refl _)); clear ho hg)
  | (refine wpList_insert_ownP _ rfl _ _ _ 170 rfl 9 3 keyStr Tryz.underlying170 (plainElem Tryz.prog 3) w.heap.size 9 (opD 9) rfl HO9.out (by unfold maxLen; omega) (.string ⟨#[62]⟩) (.int .i64 9) (skl (symB 9)) rfl rfl (keyOfStr ⟨#[62]⟩ (by decide)) (.lit (.int .i64 9)) [] (plainElem_int Tryz.underlying3 (by decide)) ?_; intro w10 ho hg; have HO10 : Hid (w10.ownsMap Tryz.prog 9 (plainElem Tryz.prog 3) w.heap.size 10 (opD 10)) := Lib.hid ho; have HG10 := Lib.hid (gr_new HG9.out hg (Nat.le_refl _)); clear ho hg)
  | (refine wpList_insert_ownP _ rfl _ _ _ 170 rfl 9 3 keyStr Tryz.underlying170 (plainElem Tryz.prog 3) w.heap.size 8 (opD 8) rfl HO8.out (by unfold maxLen; omega) (.string ⟨#[60, 61]⟩) (.int .i64 8) (skl (symB 8)) rfl rfl (keyOfStr ⟨#[60, 61]⟩ (by decide)) (.lit (.int .i64 8)) [] (plainElem_int Tryz.underlying3 (by decide)) ?_; intro w9 ho hg; have HO9 : Hid (w9.ownsMap Tryz.prog 9 (plainElem Tryz.prog 3) w.heap.size 9 (opD 9)) := Lib.hid ho; have HG9 := Lib.hid (gr_new HG8.out hg (Nat.le_refl _)); clear ho hg)
  | (refine wpList_insert_ownP _ rfl _ _ _ 170 rfl 9 3 keyStr Tryz.underlying170 (plainElem Tryz.prog 3) w.heap.size 7 (opD 7) rfl HO7.out (by unfold maxLen; omega) (.string ⟨#[60]⟩) (.int .i64 7) (skl (symB 7)) rfl rfl (keyOfStr ⟨#[60]⟩ (by decide)) (.lit (.int .i64 7)) [] (plainElem_int Tryz.underlying3 (by decide)) ?_; intro w8 ho hg; have HO8 : Hid (w8.ownsMap Tryz.prog 9 (plainElem Tryz.prog 3) w.heap.size 8 (opD 8)) := Lib.hid ho; have HG8 := Lib.hid (gr_new HG7.out hg (Nat.le_refl _)); clear ho hg)
  | (refine wpList_insert_ownP _ rfl _ _ _ 170 rfl 9 3 keyStr Tryz.underlying170 (plainElem Tryz.prog 3) w.heap.size 6 (opD 6) rfl HO6.out (by unfold maxLen; omega) (.string ⟨#[33, 61]⟩) (.int .i64 6) (skl (symB 6)) rfl rfl (keyOfStr ⟨#[33, 61]⟩ (by decide)) (.lit (.int .i64 6)) [] (plainElem_int Tryz.underlying3 (by decide)) ?_; intro w7 ho hg; have HO7 : Hid (w7.ownsMap Tryz.prog 9 (plainElem Tryz.prog 3) w.heap.size 7 (opD 7)) := Lib.hid ho; have HG7 := Lib.hid (gr_new HG6.out hg (Nat.le_refl _)); clear ho hg)
  | (refine wpList_insert_ownP _ rfl _ _ _ 170 rfl 9 3 keyStr Tryz.underlying170 (plainElem Tryz.prog 3) w.heap.size 5 (opD 5) rfl HO5.out (by unfold maxLen; omega) (.string ⟨#[61, 61]⟩) (.int .i64 5) (skl (symB 5)) rfl rfl (keyOfStr ⟨#[61, 61]⟩ (by decide)) (.lit (.int .i64 5)) [] (plainElem_int Tryz.underlying3 (by decide)) ?_; intro w6 ho hg; have HO6 : Hid (w6.ownsMap Tryz.prog 9 (plainElem Tryz.prog 3) w.heap.size 6 (opD 6)) := Lib.hid ho; have HG6 := Lib.hid (gr_new HG5.out hg (Nat.le_refl _)); clear ho hg)
  | (refine wpList_insert_ownP _ rfl _ _ _ 170 rfl 9 3 keyStr Tryz.underlying170 (plainElem Tryz.prog 3) w.heap.size 4 (opD 4) rfl HO4.out (by unfold maxLen; omega) (.string ⟨#[37]⟩) (.int .i64 4) (skl (symB 4)) rfl rfl (keyOfStr ⟨#[37]⟩ (by decide)) (.lit (.int .i64 4)) [] (plainElem_int Tryz.underlying3 (by decide)) ?_; intro w5 ho hg; have HO5 : Hid (w5.ownsMap Tryz.prog 9 (plainElem Tryz.prog 3) w.heap.size 5 (opD 5)) := Lib.hid ho; have HG5 := Lib.hid (gr_new HG4.out hg (Nat.le_refl _)); clear ho hg)
  | (refine wpList_insert_ownP _ rfl _ _ _ 170 rfl 9 3 keyStr Tryz.underlying170 (plainElem Tryz.prog 3) w.heap.size 3 (opD 3) rfl HO3.out (by unfold maxLen; omega) (.string ⟨#[47]⟩) (.int .i64 3) (skl (symB 3)) rfl rfl (keyOfStr ⟨#[47]⟩ (by decide)) (.lit (.int .i64 3)) [] (plainElem_int Tryz.underlying3 (by decide)) ?_; intro w4 ho hg; have HO4 : Hid (w4.ownsMap Tryz.prog 9 (plainElem Tryz.prog 3) w.heap.size 4 (opD 4)) := Lib.hid ho; have HG4 := Lib.hid (gr_new HG3.out hg (Nat.le_refl _)); clear ho hg)
  | (refine wpList_insert_ownP _ rfl _ _ _ 170 rfl 9 3 keyStr Tryz.underlying170 (plainElem Tryz.prog 3) w.heap.size 2 (opD 2) rfl HO2.out (by unfold maxLen; omega) (.string ⟨#[42]⟩) (.int .i64 2) (skl (symB 2)) rfl rfl (keyOfStr ⟨#[42]⟩ (by decide)) (.lit (.int .i64 2)) [] (plainElem_int Tryz.underlying3 (by decide)) ?_; intro w3 ho hg; have HO3 : Hid (w3.ownsMap Tryz.prog 9 (plainElem Tryz.prog 3) w.heap.size 3 (opD 3)) := Lib.hid ho; have HG3 := Lib.hid (gr_new HG2.out hg (Nat.le_refl _)); clear ho hg)
  | (refine wpList_insert_ownP _ rfl _ _ _ 170 rfl 9 3 keyStr Tryz.underlying170 (plainElem Tryz.prog 3) w.heap.size 1 (opD 1) rfl HO1.out (by unfold maxLen; omega) (.string ⟨#[45]⟩) (.int .i64 1) (skl (symB 1)) rfl rfl (keyOfStr ⟨#[45]⟩ (by decide)) (.lit (.int .i64 1)) [] (plainElem_int Tryz.underlying3 (by decide)) ?_; intro w2 ho hg; have HO2 : Hid (w2.ownsMap Tryz.prog 9 (plainElem Tryz.prog 3) w.heap.size 2 (opD 2)) := Lib.hid ho; have HG2 := Lib.hid (gr_new HG1.out hg (Nat.le_refl _)); clear ho hg)
  | (refine wpList_insert_ownP _ rfl _ _ _ 170 rfl 9 3 keyStr Tryz.underlying170 (plainElem Tryz.prog 3) w.heap.size 0 (opD 0) rfl (World.ownsMap_made w _ _ _) (by unfold maxLen; omega) (.string ⟨#[43]⟩) (.int .i64 0) (skl (symB 0)) rfl rfl (keyOfStr ⟨#[43]⟩ (by decide)) (.lit (.int .i64 0)) [] (plainElem_int Tryz.underlying3 (by decide)) ?_; intro w1 ho hg; have HO1 : Hid (w1.ownsMap Tryz.prog 9 (plainElem Tryz.prog 3) w.heap.size 1 (opD 1)) := Lib.hid ho; have HG1 := Lib.hid (gr_new (gr_alloc (gr_refl w none) _) hg (Nat.le_refl _)); clear ho hg))
 go_ret
 exact ⟨_, rfl, HO13.out, gr_fresh HG13.out⟩
set_option maxRecDepth 100000 in
set_option maxHeartbeats 4000000 in
theorem operator_any (hp : PS L n tbk tc P k w) (hL : Pa.TkL L n) (ops : List Nat) (N g : Nat) (hN : ops.length = N) (hN9 : N ≤ 100) (ho : ∀ o ∈ ops, o ≤ 12) (hg : ∀ (j o : Nat), ops[j]? = some o → w.cell? ⟨g, j, none⟩ = some (.string (symB o))) :
 Calls Tryz.prog 121 #[.pointer (some ⟨P, 0, none⟩), .slice (some ⟨g, 0, none⟩) N N] w fun e w' =>
  (∃ o, Pa.opOf (ops.map fun o : Nat => (o : Int)) (Pa.rest L n k) = some ((o : Nat) : Int) ∧ o ∈ ops ∧ e = .returned (.tuple #[.int .i64 o, .bool true]) ∧ w.grownBy w' (some P) ∧ PS L n tbk tc P (k + 1) w') ∨
  (Pa.opOf (ops.map fun o : Nat => (o : Int)) (Pa.rest L n k) = none ∧ e = .returned (.tuple #[.int .i64 0, .bool false]) ∧ Below w.heap.size w w') := by
 have HPS := Lib.hid hp
 have HL := Lib.hid hL
 have HN := Lib.hid hN
 have HO := Lib.hid ho
 have HG := Lib.hid hg
 clear hp hL hN ho hg
 go_enter Tryz.func121, Tryz.ntmps121
 go_wp2_with fail
 go_loopg [7, 10] N (fun gg s7 s10 wr => ∃ j : Nat, s10 = .int .i64 j ∧ j ≤ N ∧ gg = N - j ∧ Hid (∀ (i o : Nat), i < j → ops[i]? = some o → Pa.is (Sy.sym o) (Pa.rest L n k) = false) ∧ Hid (Below w.heap.size w wr))
 case atStart => exact ⟨0, rfl, Nat.zero_le _, rfl, Lib.hid fun i o h => absurd h (Nat.not_lt_zero _), Lib.hid (Below.refl _ _)⟩
 case round =>
  obtain ⟨j, rfl, hj, rfl, HNO, HB⟩ := hrel
  by_cases hlt : j < N
  ·obtain ⟨o, hx⟩ : ∃ x, ops[j]? = some x := ⟨_, List.getElem?_eq_getElem (by rw [HN.out]; exact hlt)⟩
   have hc := cell_keep' HB.out (HG.out j o hx)
   have hcl := cell_lt' hc
   have hb1 : (0 : Int) ≤ (j : Int) := by omega
   have hb2 : (j : Int) < (N : Int) := by omega
   have ho12 := HO.out o (List.mem_of_getElem? hx)
   have hne := symB_ne ho12
   have HX := Lib.hid hx
   clear hx
   cases his : Pa.is (Sy.sym o) (Pa.rest L n k)
   ·have KT := Lib.hid (take_no (HPS.out.below HB.out) HL.out (symB o) hne his)
    have HIS := Lib.hid his
    clear his hne
    go_wp2_with fail
    refine KT.out.mono ?_
    rintro e w1 ⟨rfl, h1⟩
    have HB1 := Lib.hid (below_next HB.out h1)
    clear h1 hc hcl
    go_wp2_with fail
    go_roundg (N - (j + 1))
    case measure => omega
    case rel =>
     refine ⟨j + 1, by go_num, by omega, rfl, Lib.hid fun i o' hi hx' => ?_, HB1⟩
     rcases Nat.lt_or_ge i j with h | h
     ·exact HNO.out i o' h hx'
     ·obtain rfl : i = j := by omega
      have e := HX.out
      rw [hx'] at e
      cases e
      exact HIS.out
   ·have KT := Lib.hid (take_yes (HPS.out.below HB.out) HL.out (symB o) hne his)
    have HIS := Lib.hid his
    clear his hne
    go_wp2_with fail
    refine KT.out.mono ?_
    rintro e w1 ⟨rfl, h1, h2⟩
    have H1 := Lib.hid (gr_trans (gr_below HB.out (some P)) h1)
    have H2 := Lib.hid h2
    clear h1 h2 hc hcl
    go_wp2_with fail
    refine (operators_any w1).mono ?_
    rintro e w2 ⟨M, rfl, hM, hb2⟩
    have hlk := ops_look hM o ho12
    have H3 := Lib.hid (gr_trans H1.out (gr_below hb2 (some P)))
    have H4 := Lib.hid (H2.out.below hb2)
    clear hM hb2
    go_wp2_with fail
    go_ret2
    refine .inl ⟨o, ?_, List.mem_of_getElem? HX.out, rfl, H3.out, H4.out⟩
    unfold Pa.opOf
    rw [List.find?_eq_some_iff_getElem]
    refine ⟨HIS.out, j, by rw [List.length_map]; rw [HN.out]; exact hlt, ?_, fun i hi => ?_⟩
    ·rw [List.getElem_map]
     have e := (List.getElem?_eq_some_iff.1 HX.out).2
     rw [e]
    ·rw [List.getElem_map]
     have := HNO.out i _ hi (List.getElem?_eq_getElem (by rw [HN.out]; omega))
     rw [this]
     rfl
  ·obtain rfl : j = N := by omega
   go_wp2_with fail
   go_ret2
   refine .inr ⟨?_, rfl, HB.out⟩
   unfold Pa.opOf
   rw [List.find?_eq_none]
   intro x hx
   obtain ⟨o, hm, rfl⟩ := List.mem_map.1 hx
   obtain ⟨i, hi, rfl⟩ := List.getElem_of_mem hm
   rw [HNO.out i _ (by rw [← HN.out]; exact hi) (List.getElem?_eq_getElem hi)]
   decide
end
end Go.Proofs.YtdckddkalgnlpaaGreatDoor
namespace Go.Proofs.YtdckddkalgnlpaaGreatDoor
open Go.RowKit Go.Maps Pw
def upL (B : Nat) (l : List Nat) : Nat → Bool := fun k => decide (k < B ∨ k ∈ l)
theorem upL_true {B k : Nat} {l : List Nat} : upL B l k = true ↔ k < B ∨ k ∈ l := by unfold upL; exact decide_eq_true_iff
theorem up_step {B B' : Nat} {l l' : List Nat} {w w' : World} {row : Option Nat} (hg : w.grownBy w' row) (h1 : ∀ k, row = some k → k < B ∨ k ∈ l) (h2 : ∀ k, k < w.heap.size → k < B' ∨ k ∈ l' → k < B ∨ k ∈ l) : Inc (hide (upL B l) w) (hide (upL B' l') w') :=
 hide_step hg (fun k hk => upL_true.2 (h1 k hk)) (fun k hk hs => upL_true.2 (h2 k hk (upL_true.1 hs)))
theorem up_mono {B B' : Nat} {l l' : List Nat} {w : World} (h2 : ∀ k, k < w.heap.size → k < B' ∨ k ∈ l' → k < B ∨ k ∈ l) : Inc (hide (upL B l) w) (hide (upL B' l') w) := up_step (row := none) (gr_refl w none) (fun _ h => by cases h) h2
theorem upL_ge {B k : Nat} {l : List Nat} (h : B ≤ k) (h2 : k ∉ l) : upL B l k = false := by
 unfold upL
 rw [decide_eq_false_iff_not]
 rintro (h3 | h3)
 ·omega
 ·exact h2 h3
def rdE (W : World) (v : Value) (e : Tr.E) : Prop := ∃ a, v = exprV e a ∧ BdE e ∧ SlE W a e.args
def PQ {α : Type} (L : List Lex.Tok) (n tbk tc P k : Nat) (p : Nat → Pa.Toks → Pa.R α) (rd : World → Value → α → Prop) (w : World) (e : Ending) (w' : World) : Prop :=
 w.grownBy w' (some P) ∧
 ((∃ a v k', Pa.Ev (fun f => p f (Pa.rest L n k)) (.ok a (Pa.rest L n k')) ∧ e = .returned v ∧ rd (hide (upL w.heap.size []) w') v a ∧ k < k' ∧ PS L n tbk tc P k' w') ∨
  (∃ k' t, Pa.Ev (fun f => p f (Pa.rest L n k)) (.bad (Pa.rest L n k')) ∧ e = .panicked (failV t.pos) ∧ k ≤ k' ∧ k' ≤ n ∧ L[k']? = some t))
def EC (L : List Lex.Tok) (n tbk tc P F lv m : Nat) : Prop := ∀ k w, PS L n tbk tc P k w → n - k ≤ m → Calls Tryz.prog F #[.pointer (some ⟨P, 0, none⟩)] w (PQ L n tbk tc P k (fun f ts => Pa.pE f lv ts) rdE w)
namespace Pa
theorem ev_pL_some {lv : Nat} {ops : List Int} {a : Tr.E} {ts : Toks} {o : Int} {x : R Tr.E} (h : opOf ops ts = some o) (hb : Ev (fun f => (pE f lv ts.tail).bind fun b r => pL f lv ops (bin o a b) r) x) : Ev (fun f => pL f lv ops a ts) x :=
 .step (fun f => by rw [pL_s, h]) hb
theorem ev_pL_none {lv : Nat} {ops : List Int} {a : Tr.E} {ts : Toks} (h : opOf ops ts = none) : Ev (fun f => pL f lv ops a ts) (.ok a ts) :=
 .step (q := fun _ => .ok a ts) (fun f => by rw [pL_s, h]) (.const _)
end Pa
theorem rd_two {B : Nat} {l : List Nat} {W : World} {g : Nat} {x y : Tr.E} {a b : Value} {cs : Array Value} {t : TypeId} (h : W.heap[g]? = some (.cells cs t (0, 0))) (hc : cs = #[.int .i64 x.kind, .int .i64 x.op, .int .i64 x.int, .string x.name, .bool x.at_, a, .int .i64 y.kind, .int .i64 y.op, .int .i64 y.int, .string y.name, .bool y.at_, b])
 (hg : B ≤ g) (hl : g ∉ l) (hx : BdE x) (hy : BdE y) (ha : SlE (hide (upL B l) W) a x.args) (hb : SlE (hide (upL B l) W) b y.args) : SlE (hide (upL B l) W) (.slice (some ⟨g, 0, none⟩) 2 2) [x, y] :=
 slE_blk (w := hide (upL B l) W) ((hide_heap (upL_ge hg hl)).trans h) [(x, a), (y, b)] (by simp) (by subst hc; rfl) (fun z hz => by
  simp only [List.mem_cons, List.not_mem_nil, or_false] at hz
  rcases hz with rfl | rfl
  ·exact ⟨hx, ha⟩
  ·exact ⟨hy, hb⟩)
theorem i64_small {n : Int} (h0 : -1000 ≤ n) (h1 : n ≤ 1000) : Tr.I64 n := ⟨by omega, by omega⟩
theorem size_nil : (⟨#[]⟩ : ByteArray).size ≤ maxLen := by decide
theorem bd_bin {o : Nat} (h : o ≤ 12) (x y : Tr.E) : BdE (Pa.bin o x y) := ⟨i64_small (n := 10) (by decide) (by decide), i64_small (n := (o : Int)) (by omega) (by omega), i64_small (n := 0) (by decide) (by decide), size_nil⟩
end Go.Proofs.YtdckddkalgnlpaaGreatDoor
