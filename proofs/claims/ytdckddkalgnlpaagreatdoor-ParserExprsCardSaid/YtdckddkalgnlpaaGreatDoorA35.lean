/-
  The reference's Program and Expr, walked.
-/
import Derived.Test.YtdckddkalgnlpaaGreatDoorA28
import Derived.Test.YtdckddkalgnlpaaGreatDoorA33
import Derived.Test.YtdckddkalgnlpaaGreatDoorA34
namespace Go.Proofs.YtdckddkalgnlpaaGreatDoor
open Go.RowKit Go.Maps Pw
theorem scan_toksR (s : ByteArray) (ts : List Lex.Tok) (w : World) (hs : s.size ≤ 9223372036854775800) (h : Lex.scan s.data.toList = .toks ts) (hne : ts ≠ []) :
 Calls Tryz.prog 27 #[.string s] w fun e w' => ∃ g cap, e = .returned (.tuple #[.slice (some ⟨g, 0, none⟩) ts.length cap, .int .i64 0, .int .i64 0]) ∧ ts.length ≤ cap ∧ ToksAt w' g ts ∧ w.heap.size ≤ g ∧ g < w'.heap.size ∧ Below w.heap.size w w' := by
 refine (scan_ref s w hs).mono ?_
 rintro e w' (⟨a, er, hb, _⟩ | ⟨us, v, ht, rfl, hown, hbel⟩)
 ·rw [h] at hb; cases hb
 ·rw [h] at ht; cases ht
  obtain ⟨g, cap, rfl, hc, hta, h1, h2⟩ := toks_of_own hown hne
  exact ⟨g, cap, rfl, hc, hta, h1, h2, hbel⟩
theorem scan_badR (s : ByteArray) (a er : Nat) (w : World) (hs : s.size ≤ 9223372036854775800) (h : Lex.scan s.data.toList = .bad a er) :
 Calls Tryz.prog 27 #[.string s] w fun e w' => e = .returned (.tuple #[.slice none 0 0, .int .i64 a, .int .i64 er]) ∧ Below w.heap.size w w' := by
 refine (scan_ref s w hs).mono ?_
 rintro e w' (⟨a2, er2, hb, rfl, hbel⟩ | ⟨us, v, ht, _⟩)
 ·rw [h] at hb; cases hb
  exact ⟨rfl, hbel⟩
 ·rw [h] at ht; cases ht
theorem pC_less (f : Nat) (ts : Pa.Toks) (a : Tr.C) (r : Pa.Toks) (hg : Pa.Good ts) (h : Pa.pC f ts = .ok a r) : r.length < ts.length := by
 have h1 := ((Pa.val_pC f) ts hg).2 a r h
 have h2 : Sy.sizeC a ≤ ts.length - r.length := h1.2
 have h3 : 1 ≤ Sy.sizeC a := by unfold Sy.sizeC; omega
 omega
theorem kind_end {L : List Lex.Tok} {n k : Nat} {t : Lex.Tok} (hL : Pa.TkL L n) (hk : k ≤ n) (ht : L[k]? = some t) (h : t.kind = 0) : k = n := by
 rcases Nat.lt_or_ge k n with hlt | hge
 ·exact absurd h (hL.kind k t hlt ht)
 ·omega
set_option maxRecDepth 100000 in
set_option maxHeartbeats 8000000 in
theorem refP_bad (s : ByteArray) (w : World) (hs : s.size ≤ 9223372036854775800) (a er : Nat) (hsc : Lex.scan s.data.toList = .bad a er) : Calls Tryz.prog 11 #[.string s] w (TopP s w) := by
 have hpos : 0 < er := scan_badpos hsc
 have hne : ((er : Int) == 0) = false := by rw [beq_eq_false_iff_ne]; omega
 obtain ⟨w1, hw1⟩ : ∃ q, q = w.alloc (.cells #[.slice none 0 0] 25) := ⟨_, rfl⟩
 have hb1 := below_box w (.cells #[.slice none 0 0] 25)
 have hR := new_at (w := w) (o := .cells #[.slice none 0 0] 25) rfl
 rw [← hw1] at hb1 hR
 have HW1 := Lib.hid hw1
 have HRB := Lib.hid hR
 have HB1 := Lib.hid hb1
 have HSC := Lib.hid hsc
 have KS := Lib.hid (scan_badR s a er w1 hs hsc)
 clear hb1 hR hw1 hsc
 go_enter Tryz.func11, Tryz.ntmps11
 go_upto_region 1 with fail
 rw [← HW1.out]
 clear HW1
 go_wp2_with fail
 refine KS.out.mono ?_
 rintro e w2 ⟨rfl, hb2⟩
 have HRW := Lib.hid (gr_at (gr_below hb2 none) HRB.out (fun h => by cases h))
 have HG2 := Lib.hid (gr_below (below_next HB1.out hb2) none)
 clear hb2 KS
 obtain ⟨rl, rc0, rf0⟩ := cells1 HRW.out
 go_wp2_with fail
 have hS := (heap_set (j := 0) (.slice none 0 0) HRW.out)
 have hgs := gr_trans (gr_refl w2 (some w.heap.size)) (gr_set _ w.heap.size 0 (.slice none 0 0))
 have zl := lt_of_block hS
 have zc0 := cell_of_blkP hS (j := 0) (u := .slice none 0 0) rfl
 have zf0 := blk_free hS 0
 refine bodyPost_ret (v := .tuple #[.agg #[.slice none 0 0], .int .i64 a, .int .i64 er]) (by simp [results, Tryz.results11, go_sem, *]) rfl ⟨gr_fresh (gr_new (HG2.out) hgs (Nat.le_refl _)), ?_⟩
 exact .inl ⟨a, er, HSC.out, rfl⟩
set_option maxRecDepth 100000 in
set_option maxHeartbeats 8000000 in
theorem refE_bad (s : ByteArray) (w : World) (hs : s.size ≤ 9223372036854775800) (a er : Nat) (hsc : Lex.scan s.data.toList = .bad a er) : Calls Tryz.prog 14 #[.string s] w (TopE s w) := by
 have hpos : 0 < er := scan_badpos hsc
 have hne : ((er : Int) == 0) = false := by rw [beq_eq_false_iff_ne]; omega
 obtain ⟨w1, hw1⟩ : ∃ q, q = w.alloc (.cells #[.int .i64 0, .int .i64 0, .int .i64 0, .string ⟨#[]⟩, .bool false, .slice none 0 0] 33) := ⟨_, rfl⟩
 have hb1 := below_box w (.cells #[.int .i64 0, .int .i64 0, .int .i64 0, .string ⟨#[]⟩, .bool false, .slice none 0 0] 33)
 have hR := new_at (w := w) (o := .cells #[.int .i64 0, .int .i64 0, .int .i64 0, .string ⟨#[]⟩, .bool false, .slice none 0 0] 33) rfl
 rw [← hw1] at hb1 hR
 have HW1 := Lib.hid hw1
 have HRB := Lib.hid hR
 have HB1 := Lib.hid hb1
 have HSC := Lib.hid hsc
 have KS := Lib.hid (scan_badR s a er w1 hs hsc)
 clear hb1 hR hw1 hsc
 go_enter Tryz.func14, Tryz.ntmps14
 go_upto_region 1 with fail
 rw [← HW1.out]
 clear HW1
 go_wp2_with fail
 refine KS.out.mono ?_
 rintro e w2 ⟨rfl, hb2⟩
 have HRW := Lib.hid (gr_at (gr_below hb2 none) HRB.out (fun h => by cases h))
 have HG2 := Lib.hid (gr_below (below_next HB1.out hb2) none)
 clear hb2 KS
 obtain ⟨rl, rc0, rf0, rc1, rf1, rc2, rf2, rc3, rf3, rc4, rf4, rc5, rf5⟩ := cells6 HRW.out
 go_wp2_with fail
 have hS := (heap_set (j := 5) (.slice none 0 0) (heap_set (j := 4) (.bool false) (heap_set (j := 3) (.string ⟨#[]⟩) (heap_set (j := 2) (.int .i64 0) (heap_set (j := 1) (.int .i64 0) (heap_set (j := 0) (.int .i64 0) HRW.out))))))
 have hgs := gr_trans (gr_refl w2 (some w.heap.size)) (gr_trans (gr_trans (gr_trans (gr_trans (gr_trans (gr_set _ w.heap.size 0 (.int .i64 0)) (gr_set _ w.heap.size 1 (.int .i64 0))) (gr_set _ w.heap.size 2 (.int .i64 0))) (gr_set _ w.heap.size 3 (.string ⟨#[]⟩))) (gr_set _ w.heap.size 4 (.bool false))) (gr_set _ w.heap.size 5 (.slice none 0 0)))
 have zl := lt_of_block hS
 have zc0 := cell_of_blkP hS (j := 0) (u := .int .i64 0) rfl
 have zf0 := blk_free hS 0
 have zc1 := cell_of_blkP hS (j := 1) (u := .int .i64 0) rfl
 have zf1 := blk_free hS 1
 have zc2 := cell_of_blkP hS (j := 2) (u := .int .i64 0) rfl
 have zf2 := blk_free hS 2
 have zc3 := cell_of_blkP hS (j := 3) (u := .string ⟨#[]⟩) rfl
 have zf3 := blk_free hS 3
 have zc4 := cell_of_blkP hS (j := 4) (u := .bool false) rfl
 have zf4 := blk_free hS 4
 have zc5 := cell_of_blkP hS (j := 5) (u := .slice none 0 0) rfl
 have zf5 := blk_free hS 5
 refine bodyPost_ret (v := .tuple #[.agg #[.int .i64 0, .int .i64 0, .int .i64 0, .string ⟨#[]⟩, .bool false, .slice none 0 0], .int .i64 a, .int .i64 er]) (by simp [results, Tryz.results14, go_sem, *]) rfl ⟨gr_fresh (gr_new (HG2.out) hgs (Nat.le_refl _)), ?_⟩
 exact .inl ⟨a, er, HSC.out, rfl⟩
set_option maxRecDepth 100000 in
set_option maxHeartbeats 8000000 in
theorem refP_ok (s : ByteArray) (w : World) (hs : s.size ≤ 9223372036854775800) (ts : List Lex.Tok) (hsc : Lex.scan s.data.toList = .toks ts) : Calls Tryz.prog 11 #[.string s] w (TopP s w) := by
 obtain ⟨hTk, _, hpos, hlen⟩ := scan_tkl hsc
 have hgd := scan_goodT hsc
 obtain ⟨n, hn⟩ : ∃ n, ts.length = n + 1 := ⟨ts.length - 1, by omega⟩
 have hn1 : ts.length - 1 = n := by omega
 rw [hn1] at hTk
 have HL := Lib.hid hTk
 have HGD : Hid (Pa.Good (Pa.rest ts n 0)) := Lib.hid (hgd n 0)
 have HN1 := Lib.hid hn1
 have HSC := Lib.hid hsc
 have hfew9 : n ≤ 900000 := by omega
 obtain ⟨w1, hw1⟩ : ∃ q, q = w.alloc (.cells #[.slice none 0 0] 25) := ⟨_, rfl⟩
 have hb1 := below_box w (.cells #[.slice none 0 0] 25)
 have hR := new_at (w := w) (o := .cells #[.slice none 0 0] 25) rfl
 rw [← hw1] at hb1 hR
 have KS := scan_toksR s ts w1 hs hsc (by intro h; rw [h] at hpos; simp at hpos)
 rw [hn] at KS
 have KS := Lib.hid KS
 have HW1 := Lib.hid hw1
 have HRB := Lib.hid hR
 have HB1 := Lib.hid hb1
 have hRl : w.heap.size < w1.heap.size := lt_of_block hR
 clear hb1 hR hw1 hsc hTk hgd hn hn1 hpos hlen
 go_enter Tryz.func11, Tryz.ntmps11
 go_upto_region 1 with fail
 rw [← HW1.out]
 clear HW1
 go_wp2_with fail
 refine KS.out.mono ?_
 rintro e w2 ⟨g, cap, rfl, hcap, hta, hg1, hg2, hb2⟩
 have hnb := new_at (w := w2) (o := .cells #[.slice (some ⟨g, 0, none⟩) (n + 1) cap, .int .i64 0, .bool false] 57) rfl
 have hbx := below_box w2 (.cells #[.slice (some ⟨g, 0, none⟩) (n + 1) cap, .int .i64 0, .bool false] 57)
 obtain ⟨w3, hw3⟩ : ∃ q, q = w2.alloc (.cells #[.slice (some ⟨g, 0, none⟩) (n + 1) cap, .int .i64 0, .bool false] 57) := ⟨_, rfl⟩
 have hz2 := hb2.size
 obtain ⟨P, hP⟩ : ∃ q, q = w2.heap.size := ⟨_, rfl⟩
 rw [← hw3, ← hP] at hnb
 rw [← hw3] at hbx
 have hPR : w.heap.size < P := by omega
 have hgr : w.heap.size < g := by omega
 have HRS : Hid (RS ts n g cap P 0 false w3) := Lib.hid ⟨hnb, fun j t hj => (by obtain ⟨a, b, c, d⟩ := hta j t hj; exact ⟨cell_keep' hbx a, cell_keep' hbx b, cell_keep' hbx c, cell_keep' hbx d⟩), Nat.lt_of_lt_of_le hg2 hbx.size, by omega, Nat.zero_le _, hcap, hfew9⟩
 have HRW := Lib.hid (gr_at (gr_below (below_next hb2 hbx) none) HRB.out (fun h => by cases h))
 have HG3 := Lib.hid (gr_below (below_next HB1.out (below_next hb2 hbx)) none)
 have HW3 := Lib.hid hw3
 have HP := Lib.hid hP
 have hR3 : w.heap.size < w3.heap.size := lt_of_block HRW.out
 clear hnb hbx hb2 hw3 hP hta hcap hg1 hg2 KS HRB HB1 hz2
 go_upto_region 5 with fail
 rw [← HP.out, ← HW3.out]
 clear HW3 HP
 have C0 := Lib.hid (Cr.start HL.out HRS.out (fun f ts => Pa.pP f [] ts))
 clear HRS
 obtain ⟨X, w1, HX, HW, hx1, C1⟩ := C0.out.boxE #[.slice none 0 0] 25
 go_wp2_with fail
 rw [← HX.out, ← HW.out]
 clear HX HW C0
 have C2 := Lib.hid (C1.out.nilR tkC)
 obtain ⟨BP, hBP⟩ : ∃ q, q = w1.heap.size := ⟨_, rfl⟩
 rw [← hBP] at C2
 clear hBP C1
 go_loopg [25] (2 * (n - 0) + (if false = true then 0 else 1)) (fun gg s25 wr => ∃ (k' : Nat) (b' : Bool) (p : Option Addr) (N c : Nat) (tr : List CT), gg = 2 * (n - k') + (if b' = true then 0 else 1) ∧ k' ≤ n ∧ Hid (b' = false → tr.length ≤ k') ∧ Hid (tr.length ≤ k' + 1) ∧ Hid (Cr ts n g cap P 0 w3 (fun f => Pa.mv false (fun f ts => Pa.pP f [] ts) (Pa.rest ts n 0) f) k' b' [(X, #[.slice p N c], 25)] [imR tkC BP (.slice p N c) tr] (fun f ts => Pa.pP f (tr.map Prod.fst) ts) wr))
 case atStart => exact ⟨0, false, none, 0, 0, [], rfl, Nat.zero_le _, Lib.hid (fun _ => Nat.zero_le _), Lib.hid (Nat.zero_le _), C2⟩
 case round =>
  clear C2
  obtain ⟨k', b', p, N, c, tr, rfl, hnk, HLN, HLM, CR⟩ := hrel
  obtain ⟨t, ht⟩ := HL.out.get hnk
  have HT := Lib.hid ht
  clear ht
  cases b' with
  | true =>
    go_upto_region 6 with fail
    go_cut [43] (fun sv wx => sv = .bool false ∧ Hid (Below wr.heap.size wr wx))
    case first =>
     have p2 := cell_of_blkP CR.out.ps.blk (j := 2) (u := .bool true) rfl
     refine wp_region_held_drew (S := fun W => W.cell? ⟨P, 2, none⟩ = some (.bool true) ∧ Hid (Below wr.heap.size wr W)) (by kernel_rfl) ?_ (fun hHeld => ?_)
     ·exact ⟨p2, Lib.hid (Below.refl wr.heap.size wr).drew⟩
     clear p2
     refine rT 0 (some 25) ?_
     try simp only [Act.put, q0, q1, q2]
     refine rT 1 (some 26) ?_
     try simp only [Act.put, q0, q1, q2]
     refine rT 2 (some 27) ?_
     try simp only [Act.put, q0, q1, q2]
     refine rT 3 (some 28) ?_
     try simp only [Act.put, q0, q1, q2]
     refine rT 4 (some 29) ?_
     try simp only [Act.put, q0, q1, q2]
     refine rT 5 (some 30) ?_
     try simp only [Act.put, q0, q1, q2]
     refine rK 6 (some 31) ?_
     try simp only [Act.put, q0, q1, q2]
     refine rK 7 (some 32) ?_
     try simp only [Act.put, q0, q1, q2]
     refine rK 8 (some 33) ?_
     try simp only [Act.put, q0, q1, q2]
     refine rK 9 (some 34) ?_
     try simp only [Act.put, q0, q1, q2]
     refine rK 10 (some 35) ?_
     try simp only [Act.put, q0, q1, q2]
     refine rK 11 (some 36) ?_
     try simp only [Act.put, q0, q1, q2]
     refine rK 12 (some 37) ?_
     try simp only [Act.put, q0, q1, q2]
     refine rK 13 (some 38) ?_
     try simp only [Act.put, q0, q1, q2]
     refine rK 14 (some 39) ?_
     try simp only [Act.put, q0, q1, q2]
     refine rK 15 (some 40) ?_
     try simp only [Act.put, q0, q1, q2]
     refine rK 16 (some 41) ?_
     try simp only [Act.put, q0, q1, q2]
     refine rK 17 (some 42) ?_
     try simp only [Act.put, q0, q1, q2]
     refine rT 18 (some 43) ?_
     try simp only [Act.put, q0, q1, q2]
     refine wpAnyH_done (by kernel_rfl) ?_ _
     have HZ := Lib.hid hHeld.2.out
     clear hHeld
     go_wp2_with fail
     go_meet
     exact ⟨rfl, HZ⟩
    case rest =>
     obtain ⟨rfl, HZ⟩ := hcut
     have CZ := Lib.hid (CR.out.keep HZ.out)
     clear CR HZ
     have HRX := Lib.hid (gr_at CZ.out.m.gr HRW.out (ne_sm (by omega)))
     have HGX := Lib.hid (gr_new HG3.out CZ.out.m.gr (by omega))
     have p2 := cell_of_blkP CZ.out.ps.blk (j := 2) (u := .bool true) rfl
     go_upto_region 9 with fail
     clear p2
     have q0 := cell_of_blkP CZ.out.ps.blk (j := 0) (u := .slice (some ⟨g, 0, none⟩) (n + 1) cap) rfl
     have q1 := cell_of_blkP CZ.out.ps.blk (j := 1) (u := .int .i64 k') rfl
     obtain ⟨q3, q4, q5, q6⟩ := CZ.out.ps.toks k' t HT.out
     have hfew := CZ.out.hL.few
     have hcap := CZ.out.ps.cap
     have hle := CZ.out.le
     have a1 : (0 : Int) ≤ (k' : Int) := by omega
     have a2 : (k' : Int) < (n : Int) + 1 := by omega
     obtain ⟨w9, HW9⟩ : ∃ q, Hid (q = wc.drew) := ⟨_, Lib.hid rfl⟩
     have HRY := Lib.hid (show w9.heap[w.heap.size]? = some (.cells #[.slice none 0 0] 25 (0, 0)) by rw [HW9.out]; exact HRX.out)
     have HGY := Lib.hid (show w.grownBy w9 none by rw [HW9.out]; exact gr_drew HGX.out)
     refine wp_region_held_drew (S := fun W => W.cell? ⟨P, 0, none⟩ = some (.slice (some ⟨g, 0, none⟩) (n + 1) cap) ∧ W.cell? ⟨P, 1, none⟩ = some (.int .i64 k') ∧ W.cell? ⟨g, k' * 4, none⟩ = some (.int .i64 t.kind) ∧ W.cell? ⟨g, k' * 4 + 1, none⟩ = some (.string ⟨t.text.toArray⟩) ∧ W.cell? ⟨g, k' * 4 + 2, none⟩ = some (.int .i64 t.val) ∧ W.cell? ⟨g, k' * 4 + 3, none⟩ = some (.int .i64 t.pos)) (by kernel_rfl) ⟨q0, q1, q3, q4, q5, q6⟩ (fun hHeld => ?_)
     rw [← HW9.out] at hHeld ⊢
     clear q0 q1 q3 q4 q5 q6
     refine rT 0 (some 55) ?_
     try simp only [Act.put, q0, q1, q2]
     refine rT 1 (some 56) ?_
     try simp only [Act.put, q0, q1, q2]
     refine rT 2 (some 57) ?_
     try simp only [Act.put, q0, q1, q2]
     refine rT 3 (some 58) ?_
     try simp only [Act.put, q0, q1, q2]
     refine rT 4 (some 59) ?_
     try simp only [Act.put, q0, q1, q2]
     refine rT 5 (some 60) ?_
     try simp only [Act.put, q0, q1, q2]
     refine rT 6 (some 61) ?_
     try simp only [Act.put, q0, q1, q2]
     refine rT 7 (some 62) ?_
     try simp only [Act.put, q0, q1, q2]
     refine rT 8 (some 63) ?_
     try simp only [Act.put, q0, q1, q2]
     refine rT 9 (some 64) ?_
     try simp only [Act.put, q0, q1, q2]
     refine rT 10 (some 65) ?_
     try simp only [Act.put, q0, q1, q2]
     refine rT 11 (some 66) ?_
     try simp only [Act.put, q0, q1, q2]
     refine rR1 12 none (fun K hK => ?_)
     obtain ⟨rl, rc0, rf0⟩ := cells1 HRY.out
     go_simp
     refine hK.out _ _ ⟨gr_cell (gr_trans (gr_refl w9 (some w.heap.size)) (gr_set _ w.heap.size 0 (.slice none 0 0))) hHeld.1 (ne_sm (by omega)), gr_cell (gr_trans (gr_refl w9 (some w.heap.size)) (gr_set _ w.heap.size 0 (.slice none 0 0))) hHeld.2.1 (ne_sm (by omega)), gr_cell (gr_trans (gr_refl w9 (some w.heap.size)) (gr_set _ w.heap.size 0 (.slice none 0 0))) hHeld.2.2.1 (ne_sm (by omega)), gr_cell (gr_trans (gr_refl w9 (some w.heap.size)) (gr_set _ w.heap.size 0 (.slice none 0 0))) hHeld.2.2.2.1 (ne_sm (by omega)), gr_cell (gr_trans (gr_refl w9 (some w.heap.size)) (gr_set _ w.heap.size 0 (.slice none 0 0))) hHeld.2.2.2.2.1 (ne_sm (by omega)), gr_cell (gr_trans (gr_refl w9 (some w.heap.size)) (gr_set _ w.heap.size 0 (.slice none 0 0))) hHeld.2.2.2.2.2 (ne_sm (by omega))⟩ (fun hHeld => ?_)
     clear hK K
     try simp only [Act.put, q0, q1, q2]
     refine rT 13 (some 3) ?_ (hS := hHeld)
     try simp only [Act.put, q0, q1, q2]
     refine rT 14 (some 4) ?_ (hS := hHeld)
     try simp only [Act.put, q0, q1, q2]
     refine wpAnyH_done (by kernel_rfl) ?_ _
     clear hHeld hfew hcap a1 a2 rl rc0 rf0
     go_wp2_with fail
     have hS := (heap_set (j := 0) (.slice none 0 0) HRY.out)
     have hgs := gr_trans (gr_refl w9 (some w.heap.size)) (gr_set _ w.heap.size 0 (.slice none 0 0))
     have zl := lt_of_block hS
     have zc0 := cell_of_blkP hS (j := 0) (u := .slice none 0 0) rfl
     have zf0 := blk_free hS 0
     refine bodyPost_ret (v := .tuple #[.agg #[.slice none 0 0], .int .i64 t.pos, .int .i64 3]) (by simp [results, Tryz.results11, go_sem, *]) rfl ⟨gr_fresh (gr_new (HGY.out) hgs (Nat.le_refl _)), ?_⟩
     exact .inr (.inr (.inr ⟨ts, k', t, HSC.out, by rw [HN1.out]; exact CZ.out.ev _ (.const _), by rw [HN1.out]; exact CZ.out.le, HT.out, rfl⟩))
  | false =>
    by_cases hk0 : t.kind = 0
    ·have HKN := Lib.hid (kind_end HL.out hnk HT.out hk0).symm
     have HK := Lib.hid hk0
     clear hk0
     go_upto_region 6 with fail
     go_cut [43] (fun sv wx => sv = .bool false ∧ Hid (Below wr.heap.size wr wx))
     case first =>
      have p2 := cell_of_blkP CR.out.ps.blk (j := 2) (u := .bool false) rfl
      have q0 := cell_of_blkP CR.out.ps.blk (j := 0) (u := .slice (some ⟨g, 0, none⟩) (n + 1) cap) rfl
      have q1 := cell_of_blkP CR.out.ps.blk (j := 1) (u := .int .i64 k') rfl
      obtain ⟨q3, q4, q5, q6⟩ := CR.out.ps.toks k' t HT.out
      have hfew := CR.out.hL.few
      have hcap := CR.out.ps.cap
      have hle := CR.out.le
      have a1 : (0 : Int) ≤ (k' : Int) := by omega
      have a2 : (k' : Int) < (n : Int) + 1 := by omega
      have k0 : ((t.kind : Int) == 0) = true := (kind_beq t.kind 0).trans (beq_iff_eq.2 HK.out)
      have k9 : ((t.kind : Int) != 0) = false := congrArg not k0
      refine wp_region_held_drew (S := fun W => W.cell? ⟨P, 2, none⟩ = some (.bool false) ∧ W.cell? ⟨P, 0, none⟩ = some (.slice (some ⟨g, 0, none⟩) (n + 1) cap) ∧ W.cell? ⟨P, 1, none⟩ = some (.int .i64 k') ∧ W.cell? ⟨g, k' * 4, none⟩ = some (.int .i64 t.kind) ∧ W.cell? ⟨g, k' * 4 + 1, none⟩ = some (.string ⟨t.text.toArray⟩) ∧ W.cell? ⟨g, k' * 4 + 2, none⟩ = some (.int .i64 t.val) ∧ W.cell? ⟨g, k' * 4 + 3, none⟩ = some (.int .i64 t.pos) ∧ Hid (Below wr.heap.size wr W)) (by kernel_rfl) ?_ (fun hHeld => ?_)
      ·exact ⟨p2, q0, q1, q3, q4, q5, q6, Lib.hid (Below.refl wr.heap.size wr).drew⟩
      clear p2 q0 q1 q3 q4 q5 q6
      refine rT 0 (some 25) ?_
      try simp only [Act.put, q0, q1, q2]
      refine rT 1 (some 26) ?_
      try simp only [Act.put, q0, q1, q2]
      refine rT 2 (some 27) ?_
      try simp only [Act.put, q0, q1, q2]
      refine rT 3 (some 28) ?_
      try simp only [Act.put, q0, q1, q2]
      refine rT 4 (some 29) ?_
      try simp only [Act.put, q0, q1, q2]
      refine rT 5 (some 30) ?_
      try simp only [Act.put, q0, q1, q2]
      refine rT 6 (some 31) ?_
      try simp only [Act.put, q0, q1, q2]
      refine rT 7 (some 32) ?_
      try simp only [Act.put, q0, q1, q2]
      refine rT 8 (some 33) ?_
      try simp only [Act.put, q0, q1, q2]
      refine rT 9 (some 34) ?_
      try simp only [Act.put, q0, q1, q2]
      refine rT 10 (some 35) ?_
      try simp only [Act.put, q0, q1, q2]
      refine rT 11 (some 36) ?_
      try simp only [Act.put, q0, q1, q2]
      refine rT 12 (some 37) ?_
      try simp only [Act.put, q0, q1, q2]
      refine rT 13 (some 38) ?_
      try simp only [Act.put, q0, q1, q2]
      refine rT 14 (some 39) ?_
      try simp only [Act.put, q0, q1, q2]
      refine rT 15 (some 40) ?_
      try simp only [Act.put, q0, q1, q2]
      refine rT 16 (some 41) ?_
      try simp only [Act.put, q0, q1, q2]
      refine rT 17 (some 42) ?_
      try simp only [Act.put, q0, q1, q2]
      refine rT 18 (some 43) ?_
      try simp only [Act.put, q0, q1, q2]
      refine wpAnyH_done (by kernel_rfl) ?_ _
      have HZ := Lib.hid hHeld.2.2.2.2.2.2.2.out
      clear hHeld
      go_wp2_with fail
      go_meet
      exact ⟨rfl, HZ⟩
     case rest =>
      obtain ⟨rfl, HZ⟩ := hcut
      have CZ := Lib.hid (CR.out.keep HZ.out)
      clear CR HZ
      have hkn := HKN.out
      clear HKN
      subst hkn
      have HEV : Hid (Pa.Ev (fun f => Pa.pP f [] (Pa.rest ts n 0)) (.ok (tr.map Prod.fst) [])) := Lib.hid (CZ.out.ev _ (.step (fun f => by rw [Pa.rest_end]; exact Pa.pP_s f _ []) (.const _)))
      have hsz := (read_prog HSC.out (show Pa.Ev (fun f => Pa.pP f [] (Pa.rest ts (ts.length - 1) 0)) (.ok (tr.map Prod.fst) []) by rw [HN1.out]; exact HEV.out)).2
      obtain ⟨ZZ, hZZ⟩ : ∃ q, Sy.sizeP (tr.map Prod.fst) = q := ⟨_, rfl⟩
      have KC := refSize_any (.slice p N c) (tr.map Prod.fst) wc ((show SlC (hide (upL w3.heap.size []) wc) (.slice p N c) (tr.map Prod.fst) from CZ.out.m.vo 0 rfl).inc (hide_inc _ _)) (by omega)
      rw [hZZ] at KC hsz
      have KC := Lib.hid KC
      have HZZ := Lib.hid hZZ
      clear hZZ
      by_cases h4 : ZZ ≤ 4000
      ·have hz4 : (ZZ : Int) ≤ 4000 := by omega
       have p2 := cell_of_blkP CZ.out.ps.blk (j := 2) (u := .bool false) rfl
       obtain ⟨l0, c00, f00⟩ := cells1 (CZ.out.m.b 0 rfl)
       go_wp2_with fail
       clear l0 c00 f00 p2
       refine KC.out.mono ?_
       rintro e w4 ⟨rfl, hb4⟩
       have C3 := Lib.hid (CZ.out.keep hb4)
       clear hb4 KC CZ
       have HRX := Lib.hid (gr_at C3.out.m.gr HRW.out (ne_sm (by omega)))
       have HGX := Lib.hid (gr_new HG3.out C3.out.m.gr (by omega))
       obtain ⟨l0, c00, f00⟩ := cells1 (C3.out.m.b 0 rfl)
       obtain ⟨rl, rc0, rf0⟩ := cells1 HRX.out
       have hXR := (C3.out.m.lt 0 rfl).1
       go_wp2_with fail
       clear l0 c00 f00 rl rc0 rf0
       have HS4 := Lib.hid (show SlC (hide (upL w3.heap.size []) w4) (.slice p N c) (tr.map Prod.fst) from C3.out.m.vo 0 rfl)
       have hS := (heap_set (j := 0) (.slice p N c) HRX.out)
       have hgs := gr_trans (gr_refl w4 (some w.heap.size)) (gr_set _ w.heap.size 0 (.slice p N c))
       have zl := lt_of_block hS
       have zc0 := cell_of_blkP hS (j := 0) (u := .slice p N c) rfl
       have zf0 := blk_free hS 0
       refine bodyPost_ret (v := .tuple #[.agg #[.slice p N c], .int .i64 0, .int .i64 0]) (by simp [results, Tryz.results11, go_sem, *]) rfl ⟨gr_fresh (gr_new (HGX.out) hgs (Nat.le_refl _)), ?_⟩
       exact .inr (.inl ⟨ts, tr.map Prod.fst, _, HSC.out, by rw [HN1.out]; exact HEV.out, by rw [HZZ.out]; exact h4, rfl, (HS4.out.inc (up_step (l' := []) (B' := w3.heap.size) hgs (fun q hq => .inl (by injection hq; omega)) (fun _ _ h => h))).inc (hide_inc _ _)⟩)
      ·have hz4 : (4000 : Int) < (ZZ : Int) := by omega
       have p2 := cell_of_blkP CZ.out.ps.blk (j := 2) (u := .bool false) rfl
       obtain ⟨l0, c00, f00⟩ := cells1 (CZ.out.m.b 0 rfl)
       go_wp2_with fail
       clear l0 c00 f00 p2
       refine KC.out.mono ?_
       rintro e w4 ⟨rfl, hb4⟩
       have C4 := Lib.hid (CZ.out.keep hb4)
       clear hb4 KC CZ
       have HRX := Lib.hid (gr_at C4.out.m.gr HRW.out (ne_sm (by omega)))
       have HGX := Lib.hid (gr_new HG3.out C4.out.m.gr (by omega))
       obtain ⟨l0, c00, f00⟩ := cells1 (C4.out.m.b 0 rfl)
       obtain ⟨rl, rc0, rf0⟩ := cells1 HRX.out
       have hXR := (C4.out.m.lt 0 rfl).1
       go_wp2_with fail
       clear l0 c00 f00 rl rc0 rf0
       have hS := (heap_set (j := 0) (.slice none 0 0) HRX.out)
       have hgs := gr_trans (gr_refl w4 (some w.heap.size)) (gr_set _ w.heap.size 0 (.slice none 0 0))
       have zl := lt_of_block hS
       have zc0 := cell_of_blkP hS (j := 0) (u := .slice none 0 0) rfl
       have zf0 := blk_free hS 0
       refine bodyPost_ret (v := .tuple #[.agg #[.slice none 0 0], .int .i64 0, .int .i64 8]) (by simp [results, Tryz.results11, go_sem, *]) rfl ⟨gr_fresh (gr_new (HGX.out) hgs (Nat.le_refl _)), ?_⟩
       exact .inr (.inr (.inl ⟨ts, tr.map Prod.fst, HSC.out, by rw [HN1.out]; exact HEV.out, by rw [HZZ.out]; omega, rfl⟩))
    ·have HK := Lib.hid hk0
     have hkn := kind_lt HL.out hnk HT.out hk0
     clear hk0
     go_upto_region 6 with fail
     go_cut [43] (fun sv wx => sv = .bool true ∧ Hid (Below wr.heap.size wr wx))
     case first =>
      have p2 := cell_of_blkP CR.out.ps.blk (j := 2) (u := .bool false) rfl
      have q0 := cell_of_blkP CR.out.ps.blk (j := 0) (u := .slice (some ⟨g, 0, none⟩) (n + 1) cap) rfl
      have q1 := cell_of_blkP CR.out.ps.blk (j := 1) (u := .int .i64 k') rfl
      obtain ⟨q3, q4, q5, q6⟩ := CR.out.ps.toks k' t HT.out
      have hfew := CR.out.hL.few
      have hcap := CR.out.ps.cap
      have hle := CR.out.le
      have a1 : (0 : Int) ≤ (k' : Int) := by omega
      have a2 : (k' : Int) < (n : Int) + 1 := by omega
      have k0 : ((t.kind : Int) == 0) = false := (kind_beq t.kind 0).trans (beq_eq_false_iff_ne.2 HK.out)
      have k9 : ((t.kind : Int) != 0) = true := congrArg not k0
      refine wp_region_held_drew (S := fun W => W.cell? ⟨P, 2, none⟩ = some (.bool false) ∧ W.cell? ⟨P, 0, none⟩ = some (.slice (some ⟨g, 0, none⟩) (n + 1) cap) ∧ W.cell? ⟨P, 1, none⟩ = some (.int .i64 k') ∧ W.cell? ⟨g, k' * 4, none⟩ = some (.int .i64 t.kind) ∧ W.cell? ⟨g, k' * 4 + 1, none⟩ = some (.string ⟨t.text.toArray⟩) ∧ W.cell? ⟨g, k' * 4 + 2, none⟩ = some (.int .i64 t.val) ∧ W.cell? ⟨g, k' * 4 + 3, none⟩ = some (.int .i64 t.pos) ∧ Hid (Below wr.heap.size wr W)) (by kernel_rfl) ?_ (fun hHeld => ?_)
      ·exact ⟨p2, q0, q1, q3, q4, q5, q6, Lib.hid (Below.refl wr.heap.size wr).drew⟩
      clear p2 q0 q1 q3 q4 q5 q6
      refine rT 0 (some 25) ?_
      try simp only [Act.put, q0, q1, q2]
      refine rT 1 (some 26) ?_
      try simp only [Act.put, q0, q1, q2]
      refine rT 2 (some 27) ?_
      try simp only [Act.put, q0, q1, q2]
      refine rT 3 (some 28) ?_
      try simp only [Act.put, q0, q1, q2]
      refine rT 4 (some 29) ?_
      try simp only [Act.put, q0, q1, q2]
      refine rT 5 (some 30) ?_
      try simp only [Act.put, q0, q1, q2]
      refine rT 6 (some 31) ?_
      try simp only [Act.put, q0, q1, q2]
      refine rT 7 (some 32) ?_
      try simp only [Act.put, q0, q1, q2]
      refine rT 8 (some 33) ?_
      try simp only [Act.put, q0, q1, q2]
      refine rT 9 (some 34) ?_
      try simp only [Act.put, q0, q1, q2]
      refine rT 10 (some 35) ?_
      try simp only [Act.put, q0, q1, q2]
      refine rT 11 (some 36) ?_
      try simp only [Act.put, q0, q1, q2]
      refine rT 12 (some 37) ?_
      try simp only [Act.put, q0, q1, q2]
      refine rT 13 (some 38) ?_
      try simp only [Act.put, q0, q1, q2]
      refine rT 14 (some 39) ?_
      try simp only [Act.put, q0, q1, q2]
      refine rT 15 (some 40) ?_
      try simp only [Act.put, q0, q1, q2]
      refine rT 16 (some 41) ?_
      try simp only [Act.put, q0, q1, q2]
      refine rT 17 (some 42) ?_
      try simp only [Act.put, q0, q1, q2]
      refine rT 18 (some 43) ?_
      try simp only [Act.put, q0, q1, q2]
      refine wpAnyH_done (by kernel_rfl) ?_ _
      have HZ := Lib.hid hHeld.2.2.2.2.2.2.2.out
      clear hHeld
      go_wp2_with fail
      go_meet
      exact ⟨rfl, HZ⟩
     case rest =>
      obtain ⟨rfl, HZ⟩ := hcut
      have CZ := Lib.hid ((CR.out.keep HZ.out).evs (G' := fun f ts => (Pa.pC f ts).bind fun c r => Pa.pP f (tr.map Prod.fst ++ [c]) r) (fun x hx => ev_pP HL.out hkn hx))
      clear CR HZ
      have HLEN : tr.length ≤ 1000000 := by have h1 := HLM.out; have h2 := CZ.out.ps.few; omega
      go_upto_region 7 with fail
      obtain ⟨w5, HW, C5⟩ := CZ.out.drewE
      refine wp_region_held_drew (S := fun _ => True) (by kernel_rfl) trivial (fun _ => ?_)
      rw [← HW.out]
      clear HW CZ
      refine rT 0 (some 44) ?_
      try simp only [Act.put, q0, q1, q2]
      refine rT 2 (some 46) ?_
      try simp only [Act.put, q0, q1, q2]
      refine rR2 1 (some 45) 3 (some 47) (fun K hK => ?_) (fun K hK => ?_)
      ·obtain ⟨l0, c00, f00⟩ := cells1 (C5.out.m.b 0 rfl)
       go_simp
       refine hK.out _ _ trivial (fun _ => ?_)
       clear hK K
       try simp only [Act.put, q0, q1, q2]
       clear l0 c00 f00
       refine rR1 3 (some 47) (fun K hK => ?_)
       go_simp
       refine (C5.out.callC ((classR_any C5.out.hL HGD.out _ _ _ C5.out.ps).mono fun _ _ h => h.strict C5.out.hL (good_rest HGD.out _) pC_less)).mono ?_
       rintro e w6 ⟨c1, px1, Nx1, cx1, py1, Ny1, cy1, k1, b1, rfl, hlt1, hn1, HXX, C6⟩
       clear C5
       go_wp2_with fail
       refine hK.out _ _ trivial (fun _ => ?_)
       clear hK K
       try simp only [Act.put, q0, q1, q2]
       refine rR1 4 (some 48) (fun K hK => ?_)
       obtain ⟨X7, w7, HX, HW, hx7, C7⟩ := C6.out.boxE #[.string c1.name, .bool c1.actor, .slice px1 Nx1 cx1, .slice py1 Ny1 cy1] 49
       go_simp
       refine hK.out _ _ trivial (fun _ => ?_)
       clear hK K
       try simp only [Act.put, q0, q1, q2]
       rw [← HX.out, ← HW.out]
       clear HX HW C6
       refine rR1 5 (some 49) (fun K hK => ?_)
       refine C7.out.pushS tkC (x := ((c1, .slice px1 Nx1 cx1, .slice py1 Ny1 cy1) : CT)) rfl HLEN (by rfl) _ _ (by rfl) (by rfl) (by rfl) ?_
       intro p9 N9 c9 w8 HN9 C8
       clear C7
       refine hK.out _ _ trivial (fun _ => ?_)
       clear hK K
       try simp only [Act.put, q0, q1, q2]
       refine rT 6 (some 50) ?_
       try simp only [Act.put, q0, q1, q2]
       refine rR1 7 none (fun K hK => ?_)
       obtain ⟨l0, c00, f00⟩ := cells1 (C8.out.m.b 0 rfl)
       obtain ⟨w9, HW⟩ : ∃ q, Hid (q = (w8.setCell ⟨X, 0, none⟩ (.slice p9 N9 c9))) := ⟨_, Lib.hid rfl⟩
       have C9 := Lib.hid (C8.out.mm (W' := w9) (C8.out.m.set 0 rfl (by rw [HW.out]; exact gr_set w8 X 0 (.slice p9 N9 c9)) (by rw [HW.out]; exact (heap_set (j := 0) (.slice p9 N9 c9) (C8.out.m.b 0 rfl)))))
       go_simp
       refine hK.out _ _ trivial (fun _ => ?_)
       clear hK K
       try simp only [Act.put, q0, q1, q2]
       refine wpAnyH_done (by kernel_rfl) ?_ _
       rw [← HW.out]
       clear HW C8 l0 c00 f00
       have C10 := Lib.hid (C9.out.nrm (bs' := [(X, #[.slice p9 N9 c9], 25)]) rfl)
       clear C9
       have C11 := Lib.hid (C10.out.spc (fun f ts => by rw [← map_snoc (Prod.fst : CT → Tr.C) tr ((c1, .slice px1 Nx1 cx1, .slice py1 Ny1 cy1) : CT)]))
       clear C10
       go_wp2_with fail
       have HL9 : Hid ((tr ++ [((c1, .slice px1 Nx1 cx1, .slice py1 Ny1 cy1) : CT)]).length ≤ k1 + 1) := Lib.hid (by have h1 := HLN.out (by simp); simp only [List.length_append, List.length_cons, List.length_nil]; omega)
       have HL8 : Hid (b1 = false → (tr ++ [((c1, .slice px1 Nx1 cx1, .slice py1 Ny1 cy1) : CT)]).length ≤ k1) := Lib.hid (by intro hb; have h1 := HLN.out (by simp); have h2 := HXX.out hb; simp only [List.length_append, List.length_cons, List.length_nil]; omega)
       go_roundg (2 * (n - k1) + (if b1 = true then 0 else 1))
       case measure => cases hb : b1 with
        | true => simp; omega
        | false => have h2 := HXX.out hb; simp; omega
       case rel => exact ⟨k1, b1, p9, N9, c9, _, rfl, by omega, HL8, HL9, C11⟩
      ·go_simp
       refine (C5.out.callC ((classR_any C5.out.hL HGD.out _ _ _ C5.out.ps).mono fun _ _ h => h.strict C5.out.hL (good_rest HGD.out _) pC_less)).mono ?_
       rintro e w12 ⟨c1, px1, Nx1, cx1, py1, Ny1, cy1, k1, b1, rfl, hlt1, hn1, HXX, C12⟩
       clear C5
       go_wp2_with fail
       refine hK.out _ _ trivial (fun _ => ?_)
       clear hK K
       try simp only [Act.put, q0, q1, q2]
       refine rR2 1 (some 45) 4 (some 48) (fun K hK => ?_) (fun K hK => ?_)
       ·obtain ⟨l0, c00, f00⟩ := cells1 (C12.out.m.b 0 rfl)
        go_simp
        refine hK.out _ _ trivial (fun _ => ?_)
        clear hK K
        try simp only [Act.put, q0, q1, q2]
        clear l0 c00 f00
        refine rR1 4 (some 48) (fun K hK => ?_)
        obtain ⟨X13, w13, HX, HW, hx13, C13⟩ := C12.out.boxE #[.string c1.name, .bool c1.actor, .slice px1 Nx1 cx1, .slice py1 Ny1 cy1] 49
        go_simp
        refine hK.out _ _ trivial (fun _ => ?_)
        clear hK K
        try simp only [Act.put, q0, q1, q2]
        rw [← HX.out, ← HW.out]
        clear HX HW C12
        refine rR1 5 (some 49) (fun K hK => ?_)
        refine C13.out.pushS tkC (x := ((c1, .slice px1 Nx1 cx1, .slice py1 Ny1 cy1) : CT)) rfl HLEN (by rfl) _ _ (by rfl) (by rfl) (by rfl) ?_
        intro p9 N9 c9 w14 HN9 C14
        clear C13
        refine hK.out _ _ trivial (fun _ => ?_)
        clear hK K
        try simp only [Act.put, q0, q1, q2]
        refine rT 6 (some 50) ?_
        try simp only [Act.put, q0, q1, q2]
        refine rR1 7 none (fun K hK => ?_)
        obtain ⟨l0, c00, f00⟩ := cells1 (C14.out.m.b 0 rfl)
        obtain ⟨w15, HW⟩ : ∃ q, Hid (q = (w14.setCell ⟨X, 0, none⟩ (.slice p9 N9 c9))) := ⟨_, Lib.hid rfl⟩
        have C15 := Lib.hid (C14.out.mm (W' := w15) (C14.out.m.set 0 rfl (by rw [HW.out]; exact gr_set w14 X 0 (.slice p9 N9 c9)) (by rw [HW.out]; exact (heap_set (j := 0) (.slice p9 N9 c9) (C14.out.m.b 0 rfl)))))
        go_simp
        refine hK.out _ _ trivial (fun _ => ?_)
        clear hK K
        try simp only [Act.put, q0, q1, q2]
        refine wpAnyH_done (by kernel_rfl) ?_ _
        rw [← HW.out]
        clear HW C14 l0 c00 f00
        have C16 := Lib.hid (C15.out.nrm (bs' := [(X, #[.slice p9 N9 c9], 25)]) rfl)
        clear C15
        have C17 := Lib.hid (C16.out.spc (fun f ts => by rw [← map_snoc (Prod.fst : CT → Tr.C) tr ((c1, .slice px1 Nx1 cx1, .slice py1 Ny1 cy1) : CT)]))
        clear C16
        go_wp2_with fail
        have HL9 : Hid ((tr ++ [((c1, .slice px1 Nx1 cx1, .slice py1 Ny1 cy1) : CT)]).length ≤ k1 + 1) := Lib.hid (by have h1 := HLN.out (by simp); simp only [List.length_append, List.length_cons, List.length_nil]; omega)
        have HL8 : Hid (b1 = false → (tr ++ [((c1, .slice px1 Nx1 cx1, .slice py1 Ny1 cy1) : CT)]).length ≤ k1) := Lib.hid (by intro hb; have h1 := HLN.out (by simp); have h2 := HXX.out hb; simp only [List.length_append, List.length_cons, List.length_nil]; omega)
        go_roundg (2 * (n - k1) + (if b1 = true then 0 else 1))
        case measure => cases hb : b1 with
         | true => simp; omega
         | false => have h2 := HXX.out hb; simp; omega
        case rel => exact ⟨k1, b1, p9, N9, c9, _, rfl, by omega, HL8, HL9, C17⟩
       ·obtain ⟨X18, w18, HX, HW, hx18, C18⟩ := C12.out.boxE #[.string c1.name, .bool c1.actor, .slice px1 Nx1 cx1, .slice py1 Ny1 cy1] 49
        go_simp
        refine hK.out _ _ trivial (fun _ => ?_)
        clear hK K
        try simp only [Act.put, q0, q1, q2]
        rw [← HX.out, ← HW.out]
        clear HX HW C12
        refine rR1 1 (some 45) (fun K hK => ?_)
        obtain ⟨l1, c10, f10⟩ := cells1 (C18.out.m.b 1 rfl)
        go_simp
        refine hK.out _ _ trivial (fun _ => ?_)
        clear hK K
        try simp only [Act.put, q0, q1, q2]
        clear l1 c10 f10
        refine rR1 5 (some 49) (fun K hK => ?_)
        refine C18.out.pushS tkC (x := ((c1, .slice px1 Nx1 cx1, .slice py1 Ny1 cy1) : CT)) rfl HLEN (by rfl) _ _ (by rfl) (by rfl) (by rfl) ?_
        intro p9 N9 c9 w19 HN9 C19
        clear C18
        refine hK.out _ _ trivial (fun _ => ?_)
        clear hK K
        try simp only [Act.put, q0, q1, q2]
        refine rT 6 (some 50) ?_
        try simp only [Act.put, q0, q1, q2]
        refine rR1 7 none (fun K hK => ?_)
        obtain ⟨l0, c00, f00⟩ := cells1 (C19.out.m.b 0 rfl)
        obtain ⟨w20, HW⟩ : ∃ q, Hid (q = (w19.setCell ⟨X, 0, none⟩ (.slice p9 N9 c9))) := ⟨_, Lib.hid rfl⟩
        have C20 := Lib.hid (C19.out.mm (W' := w20) (C19.out.m.set 0 rfl (by rw [HW.out]; exact gr_set w19 X 0 (.slice p9 N9 c9)) (by rw [HW.out]; exact (heap_set (j := 0) (.slice p9 N9 c9) (C19.out.m.b 0 rfl)))))
        go_simp
        refine hK.out _ _ trivial (fun _ => ?_)
        clear hK K
        try simp only [Act.put, q0, q1, q2]
        refine wpAnyH_done (by kernel_rfl) ?_ _
        rw [← HW.out]
        clear HW C19 l0 c00 f00
        have C21 := Lib.hid (C20.out.nrm (bs' := [(X, #[.slice p9 N9 c9], 25)]) rfl)
        clear C20
        have C22 := Lib.hid (C21.out.spc (fun f ts => by rw [← map_snoc (Prod.fst : CT → Tr.C) tr ((c1, .slice px1 Nx1 cx1, .slice py1 Ny1 cy1) : CT)]))
        clear C21
        go_wp2_with fail
        have HL9 : Hid ((tr ++ [((c1, .slice px1 Nx1 cx1, .slice py1 Ny1 cy1) : CT)]).length ≤ k1 + 1) := Lib.hid (by have h1 := HLN.out (by simp); simp only [List.length_append, List.length_cons, List.length_nil]; omega)
        have HL8 : Hid (b1 = false → (tr ++ [((c1, .slice px1 Nx1 cx1, .slice py1 Ny1 cy1) : CT)]).length ≤ k1) := Lib.hid (by intro hb; have h1 := HLN.out (by simp); have h2 := HXX.out hb; simp only [List.length_append, List.length_cons, List.length_nil]; omega)
        go_roundg (2 * (n - k1) + (if b1 = true then 0 else 1))
        case measure => cases hb : b1 with
         | true => simp; omega
         | false => have h2 := HXX.out hb; simp; omega
        case rel => exact ⟨k1, b1, p9, N9, c9, _, rfl, by omega, HL8, HL9, C22⟩
set_option maxRecDepth 100000 in
set_option maxHeartbeats 8000000 in
theorem refE_ok (s : ByteArray) (w : World) (hs : s.size ≤ 9223372036854775800) (ts : List Lex.Tok) (hsc : Lex.scan s.data.toList = .toks ts) : Calls Tryz.prog 14 #[.string s] w (TopE s w) := by
 obtain ⟨hTk, _, hpos, hlen⟩ := scan_tkl hsc
 have hgd := scan_goodT hsc
 obtain ⟨n, hn⟩ : ∃ n, ts.length = n + 1 := ⟨ts.length - 1, by omega⟩
 have hn1 : ts.length - 1 = n := by omega
 rw [hn1] at hTk
 have HL := Lib.hid hTk
 have HGD : Hid (Pa.Good (Pa.rest ts n 0)) := Lib.hid (hgd n 0)
 have HN1 := Lib.hid hn1
 have HSC := Lib.hid hsc
 have hfew9 : n ≤ 900000 := by omega
 obtain ⟨w1, hw1⟩ : ∃ q, q = w.alloc (.cells #[.int .i64 0, .int .i64 0, .int .i64 0, .string ⟨#[]⟩, .bool false, .slice none 0 0] 33) := ⟨_, rfl⟩
 have hb1 := below_box w (.cells #[.int .i64 0, .int .i64 0, .int .i64 0, .string ⟨#[]⟩, .bool false, .slice none 0 0] 33)
 have hR := new_at (w := w) (o := .cells #[.int .i64 0, .int .i64 0, .int .i64 0, .string ⟨#[]⟩, .bool false, .slice none 0 0] 33) rfl
 rw [← hw1] at hb1 hR
 have KS := scan_toksR s ts w1 hs hsc (by intro h; rw [h] at hpos; simp at hpos)
 rw [hn] at KS
 have KS := Lib.hid KS
 have HW1 := Lib.hid hw1
 have HRB := Lib.hid hR
 have HB1 := Lib.hid hb1
 have hRl : w.heap.size < w1.heap.size := lt_of_block hR
 clear hb1 hR hw1 hsc hTk hgd hn hn1 hpos hlen
 go_enter Tryz.func14, Tryz.ntmps14
 go_upto_region 1 with fail
 rw [← HW1.out]
 clear HW1
 go_wp2_with fail
 refine KS.out.mono ?_
 rintro e w2 ⟨g, cap, rfl, hcap, hta, hg1, hg2, hb2⟩
 have hnb := new_at (w := w2) (o := .cells #[.slice (some ⟨g, 0, none⟩) (n + 1) cap, .int .i64 0, .bool false] 57) rfl
 have hbx := below_box w2 (.cells #[.slice (some ⟨g, 0, none⟩) (n + 1) cap, .int .i64 0, .bool false] 57)
 obtain ⟨w3, hw3⟩ : ∃ q, q = w2.alloc (.cells #[.slice (some ⟨g, 0, none⟩) (n + 1) cap, .int .i64 0, .bool false] 57) := ⟨_, rfl⟩
 have hz2 := hb2.size
 obtain ⟨P, hP⟩ : ∃ q, q = w2.heap.size := ⟨_, rfl⟩
 rw [← hw3, ← hP] at hnb
 rw [← hw3] at hbx
 have hPR : w.heap.size < P := by omega
 have hgr : w.heap.size < g := by omega
 have HRS : Hid (RS ts n g cap P 0 false w3) := Lib.hid ⟨hnb, fun j t hj => (by obtain ⟨a, b, c, d⟩ := hta j t hj; exact ⟨cell_keep' hbx a, cell_keep' hbx b, cell_keep' hbx c, cell_keep' hbx d⟩), Nat.lt_of_lt_of_le hg2 hbx.size, by omega, Nat.zero_le _, hcap, hfew9⟩
 have HRW := Lib.hid (gr_at (gr_below (below_next hb2 hbx) none) HRB.out (fun h => by cases h))
 have HG3 := Lib.hid (gr_below (below_next HB1.out (below_next hb2 hbx)) none)
 have HW3 := Lib.hid hw3
 have HP := Lib.hid hP
 have hR3 : w.heap.size < w3.heap.size := lt_of_block HRW.out
 clear hnb hbx hb2 hw3 hP hta hcap hg1 hg2 KS HRB HB1 hz2
 go_upto_region 5 with fail
 rw [← HP.out, ← HW3.out]
 clear HW3 HP
 have C0 := Lib.hid ((Cr.start HL.out HRS.out (fun f ts => Pa.pX f ts)).spc (G' := fun f ts => (Pa.pE f 0 ts).bind fun e r => if r = [] then .ok e [] else .bad r) (fun _ _ => rfl))
 clear HRS
 go_wp2_with fail
 refine (C0.out.callE (exprR_any HL.out _ _ _ C0.out.ps)).mono ?_
 rintro e w23 ⟨x1, p1, N1, c1, k1, b1, rfl, hlt1, hn1, -, C23⟩
 clear C0
 obtain ⟨X, w24, HX, HW, hx24, C24⟩ := C23.out.boxE #[.int .i64 x1.kind, .int .i64 x1.op, .int .i64 x1.int, .string x1.name, .bool x1.at_, .slice p1 N1 c1] 33
 go_upto_region 6 with fail
 rw [← HX.out, ← HW.out]
 clear HX HW C23
 obtain ⟨t, ht⟩ := HL.out.get hn1
 have HT := Lib.hid ht
 clear ht
 cases b1 with
 | true =>
   go_cut [43] (fun sv wx => sv = .bool true ∧ Hid (Below w24.heap.size w24 wx))
   case first =>
    have p2 := cell_of_blkP C24.out.ps.blk (j := 2) (u := .bool true) rfl
    refine wp_region_held_drew (S := fun W => W.cell? ⟨P, 2, none⟩ = some (.bool true) ∧ Hid (Below w24.heap.size w24 W)) (by kernel_rfl) ?_ (fun hHeld => ?_)
    ·exact ⟨p2, Lib.hid (Below.refl w24.heap.size w24).drew⟩
    clear p2
    refine rT 0 (some 26) ?_
    try simp only [Act.put, q0, q1, q2]
    refine rT 1 (some 27) ?_
    try simp only [Act.put, q0, q1, q2]
    refine rT 2 (some 28) ?_
    try simp only [Act.put, q0, q1, q2]
    refine rT 3 (some 29) ?_
    try simp only [Act.put, q0, q1, q2]
    refine rT 4 (some 30) ?_
    try simp only [Act.put, q0, q1, q2]
    refine rK 5 (some 31) ?_
    try simp only [Act.put, q0, q1, q2]
    refine rK 6 (some 32) ?_
    try simp only [Act.put, q0, q1, q2]
    refine rK 7 (some 33) ?_
    try simp only [Act.put, q0, q1, q2]
    refine rK 8 (some 34) ?_
    try simp only [Act.put, q0, q1, q2]
    refine rK 9 (some 35) ?_
    try simp only [Act.put, q0, q1, q2]
    refine rK 10 (some 36) ?_
    try simp only [Act.put, q0, q1, q2]
    refine rK 11 (some 37) ?_
    try simp only [Act.put, q0, q1, q2]
    refine rK 12 (some 38) ?_
    try simp only [Act.put, q0, q1, q2]
    refine rK 13 (some 39) ?_
    try simp only [Act.put, q0, q1, q2]
    refine rK 14 (some 40) ?_
    try simp only [Act.put, q0, q1, q2]
    refine rK 15 (some 41) ?_
    try simp only [Act.put, q0, q1, q2]
    refine rK 16 (some 42) ?_
    try simp only [Act.put, q0, q1, q2]
    refine rT 17 (some 43) ?_
    try simp only [Act.put, q0, q1, q2]
    refine wpAnyH_done (by kernel_rfl) ?_ _
    have HZ := Lib.hid hHeld.2.out
    clear hHeld
    go_wp2_with fail
    go_meet
    exact ⟨rfl, HZ⟩
   case rest =>
    obtain ⟨rfl, HZ⟩ := hcut
    have CZ := Lib.hid (C24.out.keep HZ.out)
    clear C24 HZ
    have HRX := Lib.hid (gr_at CZ.out.m.gr HRW.out (ne_sm (by omega)))
    have HGX := Lib.hid (gr_new HG3.out CZ.out.m.gr (by omega))
    go_upto_region 7 with fail
    have q0 := cell_of_blkP CZ.out.ps.blk (j := 0) (u := .slice (some ⟨g, 0, none⟩) (n + 1) cap) rfl
    have q1 := cell_of_blkP CZ.out.ps.blk (j := 1) (u := .int .i64 k1) rfl
    obtain ⟨q3, q4, q5, q6⟩ := CZ.out.ps.toks k1 t HT.out
    have hfew := CZ.out.hL.few
    have hcap := CZ.out.ps.cap
    have hle := CZ.out.le
    have a1 : (0 : Int) ≤ (k1 : Int) := by omega
    have a2 : (k1 : Int) < (n : Int) + 1 := by omega
    obtain ⟨w9, HW9⟩ : ∃ q, Hid (q = wc.drew) := ⟨_, Lib.hid rfl⟩
    have HRY := Lib.hid (show w9.heap[w.heap.size]? = some (.cells #[.int .i64 0, .int .i64 0, .int .i64 0, .string ⟨#[]⟩, .bool false, .slice none 0 0] 33 (0, 0)) by rw [HW9.out]; exact HRX.out)
    have HGY := Lib.hid (show w.grownBy w9 none by rw [HW9.out]; exact gr_drew HGX.out)
    refine wp_region_held_drew (S := fun W => W.cell? ⟨P, 0, none⟩ = some (.slice (some ⟨g, 0, none⟩) (n + 1) cap) ∧ W.cell? ⟨P, 1, none⟩ = some (.int .i64 k1) ∧ W.cell? ⟨g, k1 * 4, none⟩ = some (.int .i64 t.kind) ∧ W.cell? ⟨g, k1 * 4 + 1, none⟩ = some (.string ⟨t.text.toArray⟩) ∧ W.cell? ⟨g, k1 * 4 + 2, none⟩ = some (.int .i64 t.val) ∧ W.cell? ⟨g, k1 * 4 + 3, none⟩ = some (.int .i64 t.pos)) (by kernel_rfl) ⟨q0, q1, q3, q4, q5, q6⟩ (fun hHeld => ?_)
    rw [← HW9.out] at hHeld ⊢
    clear q0 q1 q3 q4 q5 q6
    refine rT 0 (some 44) ?_
    try simp only [Act.put, q0, q1, q2]
    refine rT 1 (some 45) ?_
    try simp only [Act.put, q0, q1, q2]
    refine rT 2 (some 46) ?_
    try simp only [Act.put, q0, q1, q2]
    refine rT 3 (some 47) ?_
    try simp only [Act.put, q0, q1, q2]
    refine rT 4 (some 48) ?_
    try simp only [Act.put, q0, q1, q2]
    refine rT 5 (some 49) ?_
    try simp only [Act.put, q0, q1, q2]
    refine rT 6 (some 50) ?_
    try simp only [Act.put, q0, q1, q2]
    refine rT 7 (some 51) ?_
    try simp only [Act.put, q0, q1, q2]
    refine rT 8 (some 52) ?_
    try simp only [Act.put, q0, q1, q2]
    refine rT 9 (some 53) ?_
    try simp only [Act.put, q0, q1, q2]
    refine rT 10 (some 54) ?_
    try simp only [Act.put, q0, q1, q2]
    refine rT 11 (some 55) ?_
    try simp only [Act.put, q0, q1, q2]
    refine rR1 12 none (fun K hK => ?_)
    obtain ⟨rl, rc0, rf0, rc1, rf1, rc2, rf2, rc3, rf3, rc4, rf4, rc5, rf5⟩ := cells6 HRY.out
    go_simp
    refine hK.out _ _ ⟨gr_cell (gr_trans (gr_refl w9 (some w.heap.size)) (gr_trans (gr_trans (gr_trans (gr_trans (gr_trans (gr_set _ w.heap.size 0 (.int .i64 0)) (gr_set _ w.heap.size 1 (.int .i64 0))) (gr_set _ w.heap.size 2 (.int .i64 0))) (gr_set _ w.heap.size 3 (.string ⟨#[]⟩))) (gr_set _ w.heap.size 4 (.bool false))) (gr_set _ w.heap.size 5 (.slice none 0 0)))) hHeld.1 (ne_sm (by omega)), gr_cell (gr_trans (gr_refl w9 (some w.heap.size)) (gr_trans (gr_trans (gr_trans (gr_trans (gr_trans (gr_set _ w.heap.size 0 (.int .i64 0)) (gr_set _ w.heap.size 1 (.int .i64 0))) (gr_set _ w.heap.size 2 (.int .i64 0))) (gr_set _ w.heap.size 3 (.string ⟨#[]⟩))) (gr_set _ w.heap.size 4 (.bool false))) (gr_set _ w.heap.size 5 (.slice none 0 0)))) hHeld.2.1 (ne_sm (by omega)), gr_cell (gr_trans (gr_refl w9 (some w.heap.size)) (gr_trans (gr_trans (gr_trans (gr_trans (gr_trans (gr_set _ w.heap.size 0 (.int .i64 0)) (gr_set _ w.heap.size 1 (.int .i64 0))) (gr_set _ w.heap.size 2 (.int .i64 0))) (gr_set _ w.heap.size 3 (.string ⟨#[]⟩))) (gr_set _ w.heap.size 4 (.bool false))) (gr_set _ w.heap.size 5 (.slice none 0 0)))) hHeld.2.2.1 (ne_sm (by omega)), gr_cell (gr_trans (gr_refl w9 (some w.heap.size)) (gr_trans (gr_trans (gr_trans (gr_trans (gr_trans (gr_set _ w.heap.size 0 (.int .i64 0)) (gr_set _ w.heap.size 1 (.int .i64 0))) (gr_set _ w.heap.size 2 (.int .i64 0))) (gr_set _ w.heap.size 3 (.string ⟨#[]⟩))) (gr_set _ w.heap.size 4 (.bool false))) (gr_set _ w.heap.size 5 (.slice none 0 0)))) hHeld.2.2.2.1 (ne_sm (by omega)), gr_cell (gr_trans (gr_refl w9 (some w.heap.size)) (gr_trans (gr_trans (gr_trans (gr_trans (gr_trans (gr_set _ w.heap.size 0 (.int .i64 0)) (gr_set _ w.heap.size 1 (.int .i64 0))) (gr_set _ w.heap.size 2 (.int .i64 0))) (gr_set _ w.heap.size 3 (.string ⟨#[]⟩))) (gr_set _ w.heap.size 4 (.bool false))) (gr_set _ w.heap.size 5 (.slice none 0 0)))) hHeld.2.2.2.2.1 (ne_sm (by omega)), gr_cell (gr_trans (gr_refl w9 (some w.heap.size)) (gr_trans (gr_trans (gr_trans (gr_trans (gr_trans (gr_set _ w.heap.size 0 (.int .i64 0)) (gr_set _ w.heap.size 1 (.int .i64 0))) (gr_set _ w.heap.size 2 (.int .i64 0))) (gr_set _ w.heap.size 3 (.string ⟨#[]⟩))) (gr_set _ w.heap.size 4 (.bool false))) (gr_set _ w.heap.size 5 (.slice none 0 0)))) hHeld.2.2.2.2.2 (ne_sm (by omega))⟩ (fun hHeld => ?_)
    clear hK K
    try simp only [Act.put, q0, q1, q2]
    refine rT 13 (some 3) ?_ (hS := hHeld)
    try simp only [Act.put, q0, q1, q2]
    refine rT 14 (some 4) ?_ (hS := hHeld)
    try simp only [Act.put, q0, q1, q2]
    refine wpAnyH_done (by kernel_rfl) ?_ _
    clear hHeld hfew hcap a1 a2 rl rc0 rf0 rc1 rf1 rc2 rf2 rc3 rf3 rc4 rf4 rc5 rf5
    go_wp2_with fail
    have hS := (heap_set (j := 5) (.slice none 0 0) (heap_set (j := 4) (.bool false) (heap_set (j := 3) (.string ⟨#[]⟩) (heap_set (j := 2) (.int .i64 0) (heap_set (j := 1) (.int .i64 0) (heap_set (j := 0) (.int .i64 0) HRY.out))))))
    have hgs := gr_trans (gr_refl w9 (some w.heap.size)) (gr_trans (gr_trans (gr_trans (gr_trans (gr_trans (gr_set _ w.heap.size 0 (.int .i64 0)) (gr_set _ w.heap.size 1 (.int .i64 0))) (gr_set _ w.heap.size 2 (.int .i64 0))) (gr_set _ w.heap.size 3 (.string ⟨#[]⟩))) (gr_set _ w.heap.size 4 (.bool false))) (gr_set _ w.heap.size 5 (.slice none 0 0)))
    have zl := lt_of_block hS
    have zc0 := cell_of_blkP hS (j := 0) (u := .int .i64 0) rfl
    have zf0 := blk_free hS 0
    have zc1 := cell_of_blkP hS (j := 1) (u := .int .i64 0) rfl
    have zf1 := blk_free hS 1
    have zc2 := cell_of_blkP hS (j := 2) (u := .int .i64 0) rfl
    have zf2 := blk_free hS 2
    have zc3 := cell_of_blkP hS (j := 3) (u := .string ⟨#[]⟩) rfl
    have zf3 := blk_free hS 3
    have zc4 := cell_of_blkP hS (j := 4) (u := .bool false) rfl
    have zf4 := blk_free hS 4
    have zc5 := cell_of_blkP hS (j := 5) (u := .slice none 0 0) rfl
    have zf5 := blk_free hS 5
    refine bodyPost_ret (v := .tuple #[.agg #[.int .i64 0, .int .i64 0, .int .i64 0, .string ⟨#[]⟩, .bool false, .slice none 0 0], .int .i64 t.pos, .int .i64 3]) (by simp [results, Tryz.results14, go_sem, *]) rfl ⟨gr_fresh (gr_new (HGY.out) hgs (Nat.le_refl _)), ?_⟩
    exact .inr (.inr (.inr ⟨ts, k1, t, HSC.out, by rw [HN1.out]; exact CZ.out.ev _ (.const _), by rw [HN1.out]; exact CZ.out.le, HT.out, rfl⟩))
 | false =>
   by_cases hk0 : t.kind = 0
   ·have HKN := Lib.hid (kind_end HL.out hn1 HT.out hk0).symm
    have HK := Lib.hid hk0
    clear hk0
    go_cut [43] (fun sv wx => sv = .bool false ∧ Hid (Below w24.heap.size w24 wx))
    case first =>
     have p2 := cell_of_blkP C24.out.ps.blk (j := 2) (u := .bool false) rfl
     have q0 := cell_of_blkP C24.out.ps.blk (j := 0) (u := .slice (some ⟨g, 0, none⟩) (n + 1) cap) rfl
     have q1 := cell_of_blkP C24.out.ps.blk (j := 1) (u := .int .i64 k1) rfl
     obtain ⟨q3, q4, q5, q6⟩ := C24.out.ps.toks k1 t HT.out
     have hfew := C24.out.hL.few
     have hcap := C24.out.ps.cap
     have hle := C24.out.le
     have a1 : (0 : Int) ≤ (k1 : Int) := by omega
     have a2 : (k1 : Int) < (n : Int) + 1 := by omega
     have k0 : ((t.kind : Int) == 0) = true := (kind_beq t.kind 0).trans (beq_iff_eq.2 HK.out)
     have k9 : ((t.kind : Int) != 0) = false := congrArg not k0
     refine wp_region_held_drew (S := fun W => W.cell? ⟨P, 2, none⟩ = some (.bool false) ∧ W.cell? ⟨P, 0, none⟩ = some (.slice (some ⟨g, 0, none⟩) (n + 1) cap) ∧ W.cell? ⟨P, 1, none⟩ = some (.int .i64 k1) ∧ W.cell? ⟨g, k1 * 4, none⟩ = some (.int .i64 t.kind) ∧ W.cell? ⟨g, k1 * 4 + 1, none⟩ = some (.string ⟨t.text.toArray⟩) ∧ W.cell? ⟨g, k1 * 4 + 2, none⟩ = some (.int .i64 t.val) ∧ W.cell? ⟨g, k1 * 4 + 3, none⟩ = some (.int .i64 t.pos) ∧ Hid (Below w24.heap.size w24 W)) (by kernel_rfl) ?_ (fun hHeld => ?_)
     ·exact ⟨p2, q0, q1, q3, q4, q5, q6, Lib.hid (Below.refl w24.heap.size w24).drew⟩
     clear p2 q0 q1 q3 q4 q5 q6
     refine rT 0 (some 26) ?_
     try simp only [Act.put, q0, q1, q2]
     refine rT 1 (some 27) ?_
     try simp only [Act.put, q0, q1, q2]
     refine rT 2 (some 28) ?_
     try simp only [Act.put, q0, q1, q2]
     refine rT 3 (some 29) ?_
     try simp only [Act.put, q0, q1, q2]
     refine rT 4 (some 30) ?_
     try simp only [Act.put, q0, q1, q2]
     refine rT 5 (some 31) ?_
     try simp only [Act.put, q0, q1, q2]
     refine rT 6 (some 32) ?_
     try simp only [Act.put, q0, q1, q2]
     refine rT 7 (some 33) ?_
     try simp only [Act.put, q0, q1, q2]
     refine rT 8 (some 34) ?_
     try simp only [Act.put, q0, q1, q2]
     refine rT 9 (some 35) ?_
     try simp only [Act.put, q0, q1, q2]
     refine rT 10 (some 36) ?_
     try simp only [Act.put, q0, q1, q2]
     refine rT 11 (some 37) ?_
     try simp only [Act.put, q0, q1, q2]
     refine rT 12 (some 38) ?_
     try simp only [Act.put, q0, q1, q2]
     refine rT 13 (some 39) ?_
     try simp only [Act.put, q0, q1, q2]
     refine rT 14 (some 40) ?_
     try simp only [Act.put, q0, q1, q2]
     refine rT 15 (some 41) ?_
     try simp only [Act.put, q0, q1, q2]
     refine rT 16 (some 42) ?_
     try simp only [Act.put, q0, q1, q2]
     refine rT 17 (some 43) ?_
     try simp only [Act.put, q0, q1, q2]
     refine wpAnyH_done (by kernel_rfl) ?_ _
     have HZ := Lib.hid hHeld.2.2.2.2.2.2.2.out
     clear hHeld
     go_wp2_with fail
     go_meet
     exact ⟨rfl, HZ⟩
    case rest =>
     obtain ⟨rfl, HZ⟩ := hcut
     have CZ := Lib.hid (C24.out.keep HZ.out)
     clear C24 HZ
     have hkn := HKN.out
     clear HKN
     subst hkn
     have HSL : Hid (SlE (hide (upL w3.heap.size []) wc) (.slice p1 N1 c1) x1.args) := Lib.hid (show ReadET (hide (upL w3.heap.size []) wc) (x1, .slice p1 N1 c1) from CZ.out.m.vo 0 rfl).2
     have hN9 : x1.args.length = N1 := by obtain ⟨pp, cc, e, _⟩ := HSL.out.form; injection e; omega
     have HEV : Hid (Pa.Ev (fun f => Pa.pX f (Pa.rest ts n 0)) (.ok x1 [])) := Lib.hid (CZ.out.ev _ (.cong (fun f => by show (if Pa.rest ts n n = [] then _ else _) = _; rw [if_pos (Pa.rest_end ts n)]) (.const _)))
     have hsz := (read_expr HSC.out (show Pa.Ev (fun f => Pa.pE f 0 (Pa.rest ts (ts.length - 1) 0)) (.ok x1 []) by rw [HN1.out]; exact pX_ok HEV.out)).2
     obtain ⟨ZZ, hZZ⟩ : ∃ q, Sy.sizeE x1 = q := ⟨_, rfl⟩
     have KC := refExprSize_any _ x1 p1 N1 c1 wc (Nat.le_refl _) hN9 (HSL.out.inc (hide_inc _ _)) (by omega)
     rw [hZZ] at KC hsz
     have KC := Lib.hid KC
     have HZZ := Lib.hid hZZ
     clear hZZ
     by_cases h4 : ZZ ≤ 4000
     ·have hz4 : (ZZ : Int) ≤ 4000 := by omega
      obtain ⟨l0, c00, f00, c01, f01, c02, f02, c03, f03, c04, f04, c05, f05⟩ := cells6 (CZ.out.m.b 0 rfl)
      go_wp2_with fail
      clear l0 c00 f00 c01 f01 c02 f02 c03 f03 c04 f04 c05 f05
      refine KC.out.mono ?_
      rintro e w4 ⟨rfl, hb4⟩
      have C25 := Lib.hid (CZ.out.keep hb4)
      clear hb4 KC CZ
      have HRX := Lib.hid (gr_at C25.out.m.gr HRW.out (ne_sm (by omega)))
      have HGX := Lib.hid (gr_new HG3.out C25.out.m.gr (by omega))
      obtain ⟨l0, c00, f00, c01, f01, c02, f02, c03, f03, c04, f04, c05, f05⟩ := cells6 (C25.out.m.b 0 rfl)
      obtain ⟨rl, rc0, rf0, rc1, rf1, rc2, rf2, rc3, rf3, rc4, rf4, rc5, rf5⟩ := cells6 HRX.out
      have hXR := (C25.out.m.lt 0 rfl).1
      go_wp2_with fail
      clear l0 c00 f00 c01 f01 c02 f02 c03 f03 c04 f04 c05 f05 rl rc0 rf0 rc1 rf1 rc2 rf2 rc3 rf3 rc4 rf4 rc5 rf5
      have HS4 := Lib.hid (show ReadET (hide (upL w3.heap.size []) w4) (x1, .slice p1 N1 c1) from C25.out.m.vo 0 rfl)
      have hS := (heap_set (j := 5) (.slice p1 N1 c1) (heap_set (j := 4) (.bool x1.at_) (heap_set (j := 3) (.string x1.name) (heap_set (j := 2) (.int .i64 x1.int) (heap_set (j := 1) (.int .i64 x1.op) (heap_set (j := 0) (.int .i64 x1.kind) HRX.out))))))
      have hgs := gr_trans (gr_refl w4 (some w.heap.size)) (gr_trans (gr_trans (gr_trans (gr_trans (gr_trans (gr_set _ w.heap.size 0 (.int .i64 x1.kind)) (gr_set _ w.heap.size 1 (.int .i64 x1.op))) (gr_set _ w.heap.size 2 (.int .i64 x1.int))) (gr_set _ w.heap.size 3 (.string x1.name))) (gr_set _ w.heap.size 4 (.bool x1.at_))) (gr_set _ w.heap.size 5 (.slice p1 N1 c1)))
      have zl := lt_of_block hS
      have zc0 := cell_of_blkP hS (j := 0) (u := .int .i64 x1.kind) rfl
      have zf0 := blk_free hS 0
      have zc1 := cell_of_blkP hS (j := 1) (u := .int .i64 x1.op) rfl
      have zf1 := blk_free hS 1
      have zc2 := cell_of_blkP hS (j := 2) (u := .int .i64 x1.int) rfl
      have zf2 := blk_free hS 2
      have zc3 := cell_of_blkP hS (j := 3) (u := .string x1.name) rfl
      have zf3 := blk_free hS 3
      have zc4 := cell_of_blkP hS (j := 4) (u := .bool x1.at_) rfl
      have zf4 := blk_free hS 4
      have zc5 := cell_of_blkP hS (j := 5) (u := .slice p1 N1 c1) rfl
      have zf5 := blk_free hS 5
      refine bodyPost_ret (v := .tuple #[.agg #[.int .i64 x1.kind, .int .i64 x1.op, .int .i64 x1.int, .string x1.name, .bool x1.at_, .slice p1 N1 c1], .int .i64 0, .int .i64 0]) (by simp [results, Tryz.results14, go_sem, *]) rfl ⟨gr_fresh (gr_new (HGX.out) hgs (Nat.le_refl _)), ?_⟩
      exact .inr (.inl ⟨ts, x1, _, HSC.out, by rw [HN1.out]; exact HEV.out, by rw [HZZ.out]; exact h4, rfl, ⟨_, rfl, HS4.out.1, (HS4.out.2.inc (up_step (l' := []) (B' := w3.heap.size) hgs (fun q hq => .inl (by injection hq; omega)) (fun _ _ h => h))).inc (hide_inc _ _)⟩⟩)
     ·have hz4 : (4000 : Int) < (ZZ : Int) := by omega
      obtain ⟨l0, c00, f00, c01, f01, c02, f02, c03, f03, c04, f04, c05, f05⟩ := cells6 (CZ.out.m.b 0 rfl)
      go_wp2_with fail
      clear l0 c00 f00 c01 f01 c02 f02 c03 f03 c04 f04 c05 f05
      refine KC.out.mono ?_
      rintro e w4 ⟨rfl, hb4⟩
      have C26 := Lib.hid (CZ.out.keep hb4)
      clear hb4 KC CZ
      have HRX := Lib.hid (gr_at C26.out.m.gr HRW.out (ne_sm (by omega)))
      have HGX := Lib.hid (gr_new HG3.out C26.out.m.gr (by omega))
      obtain ⟨l0, c00, f00, c01, f01, c02, f02, c03, f03, c04, f04, c05, f05⟩ := cells6 (C26.out.m.b 0 rfl)
      obtain ⟨rl, rc0, rf0, rc1, rf1, rc2, rf2, rc3, rf3, rc4, rf4, rc5, rf5⟩ := cells6 HRX.out
      have hXR := (C26.out.m.lt 0 rfl).1
      go_wp2_with fail
      clear l0 c00 f00 c01 f01 c02 f02 c03 f03 c04 f04 c05 f05 rl rc0 rf0 rc1 rf1 rc2 rf2 rc3 rf3 rc4 rf4 rc5 rf5
      have hS := (heap_set (j := 5) (.slice none 0 0) (heap_set (j := 4) (.bool false) (heap_set (j := 3) (.string ⟨#[]⟩) (heap_set (j := 2) (.int .i64 0) (heap_set (j := 1) (.int .i64 0) (heap_set (j := 0) (.int .i64 0) HRX.out))))))
      have hgs := gr_trans (gr_refl w4 (some w.heap.size)) (gr_trans (gr_trans (gr_trans (gr_trans (gr_trans (gr_set _ w.heap.size 0 (.int .i64 0)) (gr_set _ w.heap.size 1 (.int .i64 0))) (gr_set _ w.heap.size 2 (.int .i64 0))) (gr_set _ w.heap.size 3 (.string ⟨#[]⟩))) (gr_set _ w.heap.size 4 (.bool false))) (gr_set _ w.heap.size 5 (.slice none 0 0)))
      have zl := lt_of_block hS
      have zc0 := cell_of_blkP hS (j := 0) (u := .int .i64 0) rfl
      have zf0 := blk_free hS 0
      have zc1 := cell_of_blkP hS (j := 1) (u := .int .i64 0) rfl
      have zf1 := blk_free hS 1
      have zc2 := cell_of_blkP hS (j := 2) (u := .int .i64 0) rfl
      have zf2 := blk_free hS 2
      have zc3 := cell_of_blkP hS (j := 3) (u := .string ⟨#[]⟩) rfl
      have zf3 := blk_free hS 3
      have zc4 := cell_of_blkP hS (j := 4) (u := .bool false) rfl
      have zf4 := blk_free hS 4
      have zc5 := cell_of_blkP hS (j := 5) (u := .slice none 0 0) rfl
      have zf5 := blk_free hS 5
      refine bodyPost_ret (v := .tuple #[.agg #[.int .i64 0, .int .i64 0, .int .i64 0, .string ⟨#[]⟩, .bool false, .slice none 0 0], .int .i64 0, .int .i64 8]) (by simp [results, Tryz.results14, go_sem, *]) rfl ⟨gr_fresh (gr_new (HGX.out) hgs (Nat.le_refl _)), ?_⟩
      exact .inr (.inr (.inl ⟨ts, x1, HSC.out, by rw [HN1.out]; exact HEV.out, by rw [HZZ.out]; omega, rfl⟩))
   ·have HK := Lib.hid hk0
    have hkn := kind_lt HL.out hn1 HT.out hk0
    clear hk0
    go_cut [43] (fun sv wx => sv = .bool true ∧ Hid (Below w24.heap.size w24 wx))
    case first =>
     have p2 := cell_of_blkP C24.out.ps.blk (j := 2) (u := .bool false) rfl
     have q0 := cell_of_blkP C24.out.ps.blk (j := 0) (u := .slice (some ⟨g, 0, none⟩) (n + 1) cap) rfl
     have q1 := cell_of_blkP C24.out.ps.blk (j := 1) (u := .int .i64 k1) rfl
     obtain ⟨q3, q4, q5, q6⟩ := C24.out.ps.toks k1 t HT.out
     have hfew := C24.out.hL.few
     have hcap := C24.out.ps.cap
     have hle := C24.out.le
     have a1 : (0 : Int) ≤ (k1 : Int) := by omega
     have a2 : (k1 : Int) < (n : Int) + 1 := by omega
     have k0 : ((t.kind : Int) == 0) = false := (kind_beq t.kind 0).trans (beq_eq_false_iff_ne.2 HK.out)
     have k9 : ((t.kind : Int) != 0) = true := congrArg not k0
     refine wp_region_held_drew (S := fun W => W.cell? ⟨P, 2, none⟩ = some (.bool false) ∧ W.cell? ⟨P, 0, none⟩ = some (.slice (some ⟨g, 0, none⟩) (n + 1) cap) ∧ W.cell? ⟨P, 1, none⟩ = some (.int .i64 k1) ∧ W.cell? ⟨g, k1 * 4, none⟩ = some (.int .i64 t.kind) ∧ W.cell? ⟨g, k1 * 4 + 1, none⟩ = some (.string ⟨t.text.toArray⟩) ∧ W.cell? ⟨g, k1 * 4 + 2, none⟩ = some (.int .i64 t.val) ∧ W.cell? ⟨g, k1 * 4 + 3, none⟩ = some (.int .i64 t.pos) ∧ Hid (Below w24.heap.size w24 W)) (by kernel_rfl) ?_ (fun hHeld => ?_)
     ·exact ⟨p2, q0, q1, q3, q4, q5, q6, Lib.hid (Below.refl w24.heap.size w24).drew⟩
     clear p2 q0 q1 q3 q4 q5 q6
     refine rT 0 (some 26) ?_
     try simp only [Act.put, q0, q1, q2]
     refine rT 1 (some 27) ?_
     try simp only [Act.put, q0, q1, q2]
     refine rT 2 (some 28) ?_
     try simp only [Act.put, q0, q1, q2]
     refine rT 3 (some 29) ?_
     try simp only [Act.put, q0, q1, q2]
     refine rT 4 (some 30) ?_
     try simp only [Act.put, q0, q1, q2]
     refine rT 5 (some 31) ?_
     try simp only [Act.put, q0, q1, q2]
     refine rT 6 (some 32) ?_
     try simp only [Act.put, q0, q1, q2]
     refine rT 7 (some 33) ?_
     try simp only [Act.put, q0, q1, q2]
     refine rT 8 (some 34) ?_
     try simp only [Act.put, q0, q1, q2]
     refine rT 9 (some 35) ?_
     try simp only [Act.put, q0, q1, q2]
     refine rT 10 (some 36) ?_
     try simp only [Act.put, q0, q1, q2]
     refine rT 11 (some 37) ?_
     try simp only [Act.put, q0, q1, q2]
     refine rT 12 (some 38) ?_
     try simp only [Act.put, q0, q1, q2]
     refine rT 13 (some 39) ?_
     try simp only [Act.put, q0, q1, q2]
     refine rT 14 (some 40) ?_
     try simp only [Act.put, q0, q1, q2]
     refine rT 15 (some 41) ?_
     try simp only [Act.put, q0, q1, q2]
     refine rT 16 (some 42) ?_
     try simp only [Act.put, q0, q1, q2]
     refine rT 17 (some 43) ?_
     try simp only [Act.put, q0, q1, q2]
     refine wpAnyH_done (by kernel_rfl) ?_ _
     have HZ := Lib.hid hHeld.2.2.2.2.2.2.2.out
     clear hHeld
     go_wp2_with fail
     go_meet
     exact ⟨rfl, HZ⟩
    case rest =>
     obtain ⟨rfl, HZ⟩ := hcut
     have CZ := Lib.hid (C24.out.keep HZ.out)
     clear C24 HZ
     have HRX := Lib.hid (gr_at CZ.out.m.gr HRW.out (ne_sm (by omega)))
     have HGX := Lib.hid (gr_new HG3.out CZ.out.m.gr (by omega))
     go_upto_region 7 with fail
     have q0 := cell_of_blkP CZ.out.ps.blk (j := 0) (u := .slice (some ⟨g, 0, none⟩) (n + 1) cap) rfl
     have q1 := cell_of_blkP CZ.out.ps.blk (j := 1) (u := .int .i64 k1) rfl
     obtain ⟨q3, q4, q5, q6⟩ := CZ.out.ps.toks k1 t HT.out
     have hfew := CZ.out.hL.few
     have hcap := CZ.out.ps.cap
     have hle := CZ.out.le
     have a1 : (0 : Int) ≤ (k1 : Int) := by omega
     have a2 : (k1 : Int) < (n : Int) + 1 := by omega
     obtain ⟨w9, HW9⟩ : ∃ q, Hid (q = wc.drew) := ⟨_, Lib.hid rfl⟩
     have HRY := Lib.hid (show w9.heap[w.heap.size]? = some (.cells #[.int .i64 0, .int .i64 0, .int .i64 0, .string ⟨#[]⟩, .bool false, .slice none 0 0] 33 (0, 0)) by rw [HW9.out]; exact HRX.out)
     have HGY := Lib.hid (show w.grownBy w9 none by rw [HW9.out]; exact gr_drew HGX.out)
     refine wp_region_held_drew (S := fun W => W.cell? ⟨P, 0, none⟩ = some (.slice (some ⟨g, 0, none⟩) (n + 1) cap) ∧ W.cell? ⟨P, 1, none⟩ = some (.int .i64 k1) ∧ W.cell? ⟨g, k1 * 4, none⟩ = some (.int .i64 t.kind) ∧ W.cell? ⟨g, k1 * 4 + 1, none⟩ = some (.string ⟨t.text.toArray⟩) ∧ W.cell? ⟨g, k1 * 4 + 2, none⟩ = some (.int .i64 t.val) ∧ W.cell? ⟨g, k1 * 4 + 3, none⟩ = some (.int .i64 t.pos)) (by kernel_rfl) ⟨q0, q1, q3, q4, q5, q6⟩ (fun hHeld => ?_)
     rw [← HW9.out] at hHeld ⊢
     clear q0 q1 q3 q4 q5 q6
     refine rT 0 (some 44) ?_
     try simp only [Act.put, q0, q1, q2]
     refine rT 1 (some 45) ?_
     try simp only [Act.put, q0, q1, q2]
     refine rT 2 (some 46) ?_
     try simp only [Act.put, q0, q1, q2]
     refine rT 3 (some 47) ?_
     try simp only [Act.put, q0, q1, q2]
     refine rT 4 (some 48) ?_
     try simp only [Act.put, q0, q1, q2]
     refine rT 5 (some 49) ?_
     try simp only [Act.put, q0, q1, q2]
     refine rT 6 (some 50) ?_
     try simp only [Act.put, q0, q1, q2]
     refine rT 7 (some 51) ?_
     try simp only [Act.put, q0, q1, q2]
     refine rT 8 (some 52) ?_
     try simp only [Act.put, q0, q1, q2]
     refine rT 9 (some 53) ?_
     try simp only [Act.put, q0, q1, q2]
     refine rT 10 (some 54) ?_
     try simp only [Act.put, q0, q1, q2]
     refine rT 11 (some 55) ?_
     try simp only [Act.put, q0, q1, q2]
     refine rR1 12 none (fun K hK => ?_)
     obtain ⟨rl, rc0, rf0, rc1, rf1, rc2, rf2, rc3, rf3, rc4, rf4, rc5, rf5⟩ := cells6 HRY.out
     go_simp
     refine hK.out _ _ ⟨gr_cell (gr_trans (gr_refl w9 (some w.heap.size)) (gr_trans (gr_trans (gr_trans (gr_trans (gr_trans (gr_set _ w.heap.size 0 (.int .i64 0)) (gr_set _ w.heap.size 1 (.int .i64 0))) (gr_set _ w.heap.size 2 (.int .i64 0))) (gr_set _ w.heap.size 3 (.string ⟨#[]⟩))) (gr_set _ w.heap.size 4 (.bool false))) (gr_set _ w.heap.size 5 (.slice none 0 0)))) hHeld.1 (ne_sm (by omega)), gr_cell (gr_trans (gr_refl w9 (some w.heap.size)) (gr_trans (gr_trans (gr_trans (gr_trans (gr_trans (gr_set _ w.heap.size 0 (.int .i64 0)) (gr_set _ w.heap.size 1 (.int .i64 0))) (gr_set _ w.heap.size 2 (.int .i64 0))) (gr_set _ w.heap.size 3 (.string ⟨#[]⟩))) (gr_set _ w.heap.size 4 (.bool false))) (gr_set _ w.heap.size 5 (.slice none 0 0)))) hHeld.2.1 (ne_sm (by omega)), gr_cell (gr_trans (gr_refl w9 (some w.heap.size)) (gr_trans (gr_trans (gr_trans (gr_trans (gr_trans (gr_set _ w.heap.size 0 (.int .i64 0)) (gr_set _ w.heap.size 1 (.int .i64 0))) (gr_set _ w.heap.size 2 (.int .i64 0))) (gr_set _ w.heap.size 3 (.string ⟨#[]⟩))) (gr_set _ w.heap.size 4 (.bool false))) (gr_set _ w.heap.size 5 (.slice none 0 0)))) hHeld.2.2.1 (ne_sm (by omega)), gr_cell (gr_trans (gr_refl w9 (some w.heap.size)) (gr_trans (gr_trans (gr_trans (gr_trans (gr_trans (gr_set _ w.heap.size 0 (.int .i64 0)) (gr_set _ w.heap.size 1 (.int .i64 0))) (gr_set _ w.heap.size 2 (.int .i64 0))) (gr_set _ w.heap.size 3 (.string ⟨#[]⟩))) (gr_set _ w.heap.size 4 (.bool false))) (gr_set _ w.heap.size 5 (.slice none 0 0)))) hHeld.2.2.2.1 (ne_sm (by omega)), gr_cell (gr_trans (gr_refl w9 (some w.heap.size)) (gr_trans (gr_trans (gr_trans (gr_trans (gr_trans (gr_set _ w.heap.size 0 (.int .i64 0)) (gr_set _ w.heap.size 1 (.int .i64 0))) (gr_set _ w.heap.size 2 (.int .i64 0))) (gr_set _ w.heap.size 3 (.string ⟨#[]⟩))) (gr_set _ w.heap.size 4 (.bool false))) (gr_set _ w.heap.size 5 (.slice none 0 0)))) hHeld.2.2.2.2.1 (ne_sm (by omega)), gr_cell (gr_trans (gr_refl w9 (some w.heap.size)) (gr_trans (gr_trans (gr_trans (gr_trans (gr_trans (gr_set _ w.heap.size 0 (.int .i64 0)) (gr_set _ w.heap.size 1 (.int .i64 0))) (gr_set _ w.heap.size 2 (.int .i64 0))) (gr_set _ w.heap.size 3 (.string ⟨#[]⟩))) (gr_set _ w.heap.size 4 (.bool false))) (gr_set _ w.heap.size 5 (.slice none 0 0)))) hHeld.2.2.2.2.2 (ne_sm (by omega))⟩ (fun hHeld => ?_)
     clear hK K
     try simp only [Act.put, q0, q1, q2]
     refine rT 13 (some 3) ?_ (hS := hHeld)
     try simp only [Act.put, q0, q1, q2]
     refine rT 14 (some 4) ?_ (hS := hHeld)
     try simp only [Act.put, q0, q1, q2]
     refine wpAnyH_done (by kernel_rfl) ?_ _
     clear hHeld hfew hcap a1 a2 rl rc0 rf0 rc1 rf1 rc2 rf2 rc3 rf3 rc4 rf4 rc5 rf5
     go_wp2_with fail
     have hS := (heap_set (j := 5) (.slice none 0 0) (heap_set (j := 4) (.bool false) (heap_set (j := 3) (.string ⟨#[]⟩) (heap_set (j := 2) (.int .i64 0) (heap_set (j := 1) (.int .i64 0) (heap_set (j := 0) (.int .i64 0) HRY.out))))))
     have hgs := gr_trans (gr_refl w9 (some w.heap.size)) (gr_trans (gr_trans (gr_trans (gr_trans (gr_trans (gr_set _ w.heap.size 0 (.int .i64 0)) (gr_set _ w.heap.size 1 (.int .i64 0))) (gr_set _ w.heap.size 2 (.int .i64 0))) (gr_set _ w.heap.size 3 (.string ⟨#[]⟩))) (gr_set _ w.heap.size 4 (.bool false))) (gr_set _ w.heap.size 5 (.slice none 0 0)))
     have zl := lt_of_block hS
     have zc0 := cell_of_blkP hS (j := 0) (u := .int .i64 0) rfl
     have zf0 := blk_free hS 0
     have zc1 := cell_of_blkP hS (j := 1) (u := .int .i64 0) rfl
     have zf1 := blk_free hS 1
     have zc2 := cell_of_blkP hS (j := 2) (u := .int .i64 0) rfl
     have zf2 := blk_free hS 2
     have zc3 := cell_of_blkP hS (j := 3) (u := .string ⟨#[]⟩) rfl
     have zf3 := blk_free hS 3
     have zc4 := cell_of_blkP hS (j := 4) (u := .bool false) rfl
     have zf4 := blk_free hS 4
     have zc5 := cell_of_blkP hS (j := 5) (u := .slice none 0 0) rfl
     have zf5 := blk_free hS 5
     refine bodyPost_ret (v := .tuple #[.agg #[.int .i64 0, .int .i64 0, .int .i64 0, .string ⟨#[]⟩, .bool false, .slice none 0 0], .int .i64 t.pos, .int .i64 3]) (by simp [results, Tryz.results14, go_sem, *]) rfl ⟨gr_fresh (gr_new (HGY.out) hgs (Nat.le_refl _)), ?_⟩
     exact .inr (.inr (.inr ⟨ts, k1, t, HSC.out, by rw [HN1.out]; exact CZ.out.ev _ (.cong (fun f => by show (if Pa.rest ts n k1 = [] then _ else _) = _; rw [if_neg (by rw [Pa.rest_cons hkn HT.out]; exact fun h => by cases h)]) (.const _)), by rw [HN1.out]; exact CZ.out.le, HT.out, rfl⟩))
theorem refP_any (s : ByteArray) (w : World) (hs : s.size ≤ 9223372036854775800) : Calls Tryz.prog 11 #[.string s] w (TopP s w) := by
 cases hsc : Lex.scan s.data.toList with
 | bad a er => exact refP_bad s w hs a er hsc
 | toks ts => exact refP_ok s w hs ts hsc
theorem refE_any (s : ByteArray) (w : World) (hs : s.size ≤ 9223372036854775800) : Calls Tryz.prog 14 #[.string s] w (TopE s w) := by
 cases hsc : Lex.scan s.data.toList with
 | bad a er => exact refE_bad s w hs a er hsc
 | toks ts => exact refE_ok s w hs ts hsc
end Go.Proofs.YtdckddkalgnlpaaGreatDoor
