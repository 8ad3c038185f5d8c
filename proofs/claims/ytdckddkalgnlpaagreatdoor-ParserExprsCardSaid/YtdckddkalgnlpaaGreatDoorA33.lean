/-
  Several texts in one: PbTop, SyArg.
-/
import Derived.Test.YtdckddkalgnlpaaGreatDoorA30
import Derived.Test.YtdckddkalgnlpaaGreatDoorA31
import Derived.Test.YtdckddkalgnlpaaGreatDoorA32
import Derived.Test.YtdckddkalgnlpaaGreatDoorA5
import Derived.Test.YtdckddkalgnlpaaGreatDoorA7
namespace Go.Proofs.YtdckddkalgnlpaaGreatDoor
open Go.RowKit Go.Maps Pw
def TopP (s : ByteArray) (w : World) (e : Ending) (w' : World) : Prop := Below w.heap.size w w' ∧
 ((∃ a er : Nat, Lex.scan s.data.toList = .bad a er ∧ e = .returned (.tuple #[.agg #[.slice none 0 0], .int .i64 a, .int .i64 er])) ∨
  (∃ ts x v, Lex.scan s.data.toList = .toks ts ∧ Pa.Ev (fun f => Pa.pP f [] (Pa.rest ts (ts.length - 1) 0)) (.ok x []) ∧ Sy.sizeP x ≤ 4000 ∧ e = .returned (.tuple #[.agg #[v], .int .i64 0, .int .i64 0]) ∧ SlC w' v x) ∨
  (∃ ts x, Lex.scan s.data.toList = .toks ts ∧ Pa.Ev (fun f => Pa.pP f [] (Pa.rest ts (ts.length - 1) 0)) (.ok x []) ∧ 4000 < Sy.sizeP x ∧ e = .returned (.tuple #[.agg #[.slice none 0 0], .int .i64 0, .int .i64 8])) ∨
  (∃ ts k t, Lex.scan s.data.toList = .toks ts ∧ Pa.Ev (fun f => Pa.pP f [] (Pa.rest ts (ts.length - 1) 0)) (.bad (Pa.rest ts (ts.length - 1) k)) ∧ k ≤ ts.length - 1 ∧ ts[k]? = some t ∧ e = .returned (.tuple #[.agg #[.slice none 0 0], .int .i64 t.pos, .int .i64 3])))
def TopE (s : ByteArray) (w : World) (e : Ending) (w' : World) : Prop := Below w.heap.size w w' ∧
 ((∃ a er : Nat, Lex.scan s.data.toList = .bad a er ∧ e = .returned (.tuple #[.agg #[.int .i64 0, .int .i64 0, .int .i64 0, .string ⟨#[]⟩, .bool false, .slice none 0 0], .int .i64 a, .int .i64 er])) ∨
  (∃ ts x v, Lex.scan s.data.toList = .toks ts ∧ Pa.Ev (fun f => Pa.pX f (Pa.rest ts (ts.length - 1) 0)) (.ok x []) ∧ Sy.sizeE x ≤ 4000 ∧ e = .returned (.tuple #[v, .int .i64 0, .int .i64 0]) ∧ rdE w' v x) ∨
  (∃ ts x, Lex.scan s.data.toList = .toks ts ∧ Pa.Ev (fun f => Pa.pX f (Pa.rest ts (ts.length - 1) 0)) (.ok x []) ∧ 4000 < Sy.sizeE x ∧ e = .returned (.tuple #[.agg #[.int .i64 0, .int .i64 0, .int .i64 0, .string ⟨#[]⟩, .bool false, .slice none 0 0], .int .i64 0, .int .i64 8])) ∨
  (∃ ts k t, Lex.scan s.data.toList = .toks ts ∧ Pa.Ev (fun f => Pa.pX f (Pa.rest ts (ts.length - 1) 0)) (.bad (Pa.rest ts (ts.length - 1) k)) ∧ k ≤ ts.length - 1 ∧ ts[k]? = some t ∧ e = .returned (.tuple #[.agg #[.int .i64 0, .int .i64 0, .int .i64 0, .string ⟨#[]⟩, .bool false, .slice none 0 0], .int .i64 t.pos, .int .i64 3])))
theorem pX_ok {ts : Pa.Toks} {x : Tr.E} {r : Pa.Toks} (h : Pa.Ev (fun f => Pa.pX f ts) (.ok x r)) : Pa.Ev (fun f => Pa.pE f 0 ts) (.ok x []) := by
 obtain ⟨F, h⟩ := h
 refine ⟨F, fun f hf => ?_⟩
 have h1 := h f hf
 have h2 : (Pa.pE f 0 ts).bind (fun e r => if r = [] then .ok e [] else .bad r) = .ok x r := h1
 show Pa.pE f 0 ts = _
 cases hp : Pa.pE f 0 ts with
 | bad q => rw [hp] at h2; cases h2
 | ok a q =>
   rw [hp] at h2
   have h3 : (if q = [] then (.ok a [] : Pa.R Tr.E) else .bad q) = .ok x r := h2
   by_cases hq : q = []
   ·rw [if_pos hq] at h3
    cases h3
    rw [hq]
   ·rw [if_neg hq] at h3
    cases h3
set_option maxRecDepth 100000 in
set_option maxHeartbeats 8000000 in
theorem topP_bad (s : ByteArray) (w : World) (hE : LexEnv w) (hs : s.size ≤ 9223372036854775800) (a er : Nat) (hsc : Lex.scan s.data.toList = .bad a er) : Calls Tryz.prog 10 #[.string s] w (TopP s w) := by
 have hpos : 0 < er := scan_badpos hsc
 have hne : ((er : Int) == 0) = false := by rw [beq_eq_false_iff_ne]; omega
 have hb1 := below_box w (.cells #[.slice none 0 0] 25)
 have hR := new_at (w := w) (o := .cells #[.slice none 0 0] 25) rfl
 obtain ⟨w1, hw1⟩ : ∃ q, q = w.alloc (.cells #[.slice none 0 0] 25) := ⟨_, rfl⟩
 rw [← hw1] at hb1 hR
 have HW1 := Lib.hid hw1
 have HRB := Lib.hid hR
 have HB1 := Lib.hid hb1
 have HE := Lib.hid (hE.keep hb1)
 have HSC := Lib.hid hsc
 clear hb1 hR hw1 hE hsc
 have KR := Lib.hid (runP_bad s w1 HE.out hs a er HSC.out hpos)
 go_enter Tryz.func10, Tryz.ntmps10
 go_upto_region 1 with fail
 rw [← HW1.out]
 clear HW1
 go_wp2_with fail
 refine KR.out.mono ?_
 rintro e w2 ⟨rfl, hb2⟩
 have hnb := new_at (w := w2) (o := .cells #[.slice none 0 0] 25) rfl
 have hbx := below_box w2 (.cells #[.slice none 0 0] 25)
 obtain ⟨w3, hw3⟩ : ∃ q, q = w2.alloc (.cells #[.slice none 0 0] 25) := ⟨_, rfl⟩
 rw [← hw3] at hnb hbx
 have HXB := Lib.hid hnb
 have HRW := Lib.hid (gr_at (gr_below (below_next hb2 hbx) none) HRB.out (fun h => by cases h))
 have HG3 := Lib.hid (gr_below (below_next HB1.out (below_next hb2 hbx)) none)
 have HW3 := Lib.hid hw3
 clear hnb hbx hb2 hw3 KR
 go_upto_region 2 with fail
 rw [← HW3.out]
 clear HW3
 have xl := lt_of_block HXB.out
 have xc0 := cell_of_blkP HXB.out (j := 0) (u := .slice none 0 0) rfl
 have xf0 := blk_free HXB.out 0
 have rl := lt_of_block HRW.out
 have rc0 := cell_of_blkP HRW.out (j := 0) (u := .slice none 0 0) rfl
 have rf0 := blk_free HRW.out 0
 go_wp2_with fail
 have hS := heap_set (j := 0) (.slice none 0 0) HRW.out
 have hgs := gr_set w3 w.heap.size 0 (.slice none 0 0)
 have zl := lt_of_block hS
 have zc0 := cell_of_blkP hS (j := 0) (u := .slice none 0 0) rfl
 have zf0 := blk_free hS 0
 refine bodyPost_ret (v := .tuple #[.agg #[.slice none 0 0], .int .i64 a, .int .i64 er]) (by simp [results, Tryz.results10, go_sem, *]) rfl ⟨gr_fresh (gr_new HG3.out hgs (Nat.le_refl _)), .inl ⟨a, er, HSC.out, rfl⟩⟩
set_option maxRecDepth 100000 in
set_option maxHeartbeats 8000000 in
theorem topP_ok (s : ByteArray) (w : World) (hE : LexEnv w) (hs : s.size ≤ 16384) (ts : List Lex.Tok) (hsc : Lex.scan s.data.toList = .toks ts) : Calls Tryz.prog 10 #[.string s] w (TopP s w) := by
 have hb1 := below_box w (.cells #[.slice none 0 0] 25)
 have hR := new_at (w := w) (o := .cells #[.slice none 0 0] 25) rfl
 obtain ⟨w1, hw1⟩ : ∃ q, q = w.alloc (.cells #[.slice none 0 0] 25) := ⟨_, rfl⟩
 rw [← hw1] at hb1 hR
 have HW1 := Lib.hid hw1
 have HRB := Lib.hid hR
 have HB1 := Lib.hid hb1
 have HE := Lib.hid (hE.keep hb1)
 have HSC := Lib.hid hsc
 clear hb1 hR hw1 hE hsc
 have KR := Lib.hid (runP_ok s w1 HE.out hs ts HSC.out)
 go_enter Tryz.func10, Tryz.ntmps10
 go_upto_region 1 with fail
 rw [← HW1.out]
 clear HW1
 go_wp2_with fail
 refine KR.out.mono ?_
 rintro e w2 ⟨hb2, ⟨cs, v, hev, rfl, hsl⟩ | ⟨k, t, hev, hk, ht, rfl⟩⟩
 ·obtain ⟨pv, cv, rfl⟩ := hsl.form
  obtain ⟨NV, hNV⟩ : ∃ q, cs.length = q := ⟨_, rfl⟩
  rw [hNV] at hsl ⊢
  have hsz := (read_prog HSC.out hev).2
  have HEV := Lib.hid hev
  clear hev hNV
  have hnb := new_at (w := w2) (o := .cells #[.slice pv NV cv] 25) rfl
  have hbx := below_box w2 (.cells #[.slice pv NV cv] 25)
  obtain ⟨w3, hw3⟩ : ∃ q, q = w2.alloc (.cells #[.slice pv NV cv] 25) := ⟨_, rfl⟩
  rw [← hw3] at hnb hbx
  have HXB := Lib.hid hnb
  have HRW := Lib.hid (gr_at (gr_below (below_next hb2 hbx) none) HRB.out (fun h => by cases h))
  have HG3 := Lib.hid (gr_below (below_next HB1.out (below_next hb2 hbx)) none)
  have HW3 := Lib.hid hw3
  have HS3 := Lib.hid (hsl.inc (up_step (l' := []) (B' := w1.heap.size) (gr_below hbx none) (fun _ h => by cases h) (fun _ _ h => h)))
  clear hsl
  clear hnb hbx hb2 hw3 KR
  obtain ⟨ZZ, hZZ⟩ : ∃ q, Sy.sizeP cs = q := ⟨_, rfl⟩
  have KC := size_any (.slice pv NV cv) cs w3 (HS3.out.inc (hide_inc _ _)) (by omega)
  rw [hZZ] at KC hsz
  have KC := Lib.hid KC
  have HZZ := Lib.hid hZZ
  clear hZZ
  go_upto_region 2 with fail
  rw [← HW3.out]
  clear HW3
  by_cases h4 : ZZ ≤ 4000
  ·have hz4 : (ZZ : Int) ≤ 4000 := by omega
   have xl := lt_of_block HXB.out
   have xc0 := cell_of_blkP HXB.out (j := 0) (u := .slice pv NV cv) rfl
   have xf0 := blk_free HXB.out 0
   go_wp2_with fail
   clear xc0 xf0 xl
   refine KC.out.mono ?_
   rintro e w4 ⟨rfl, hb4⟩
   have HXB4 := Lib.hid (gr_at (gr_below hb4 none) HXB.out (fun h => by cases h))
   have HRW4 := Lib.hid (gr_at (gr_below hb4 none) HRW.out (fun h => by cases h))
   have HG4 := Lib.hid (gr_none HG3.out (gr_below hb4 none))
   have HS4 := Lib.hid (HS3.out.inc (up_step (l' := []) (B' := w1.heap.size) (gr_below hb4 none) (fun _ h => by cases h) (fun _ _ h => h)))
   clear hb4 KC HRW
   have HRW := HRW4
   have xl := lt_of_block HXB4.out
   have xc0 := cell_of_blkP HXB4.out (j := 0) (u := .slice pv NV cv) rfl
   have xf0 := blk_free HXB4.out 0
   have rl := lt_of_block HRW.out
   have rc0 := cell_of_blkP HRW.out (j := 0) (u := .slice none 0 0) rfl
   have rf0 := blk_free HRW.out 0
   have hr1 : w.heap.size < w1.heap.size := lt_of_block HRB.out
   go_wp2_with fail
   have hS := heap_set (j := 0) (.slice pv NV cv) HRW.out
   have hgs := gr_set w4 w.heap.size 0 (.slice pv NV cv)
   have zl := lt_of_block hS
   have zc0 := cell_of_blkP hS (j := 0) (u := .slice pv NV cv) rfl
   have zf0 := blk_free hS 0
   refine bodyPost_ret (v := .tuple #[.agg #[.slice pv NV cv], .int .i64 0, .int .i64 0]) (by simp [results, Tryz.results10, go_sem, *]) rfl ⟨gr_fresh (gr_new HG4.out hgs (Nat.le_refl _)), .inr (.inl ⟨ts, cs, _, HSC.out, HEV.out, by rw [HZZ.out]; exact h4, rfl, (HS4.out.inc (up_step (l' := []) (B' := w1.heap.size) hgs (fun q hq => .inl (by injection hq; omega)) (fun _ _ h => h))).inc (hide_inc _ _)⟩)⟩
  ·have hz4 : (4000 : Int) < (ZZ : Int) := by omega
   have xl := lt_of_block HXB.out
   have xc0 := cell_of_blkP HXB.out (j := 0) (u := .slice pv NV cv) rfl
   have xf0 := blk_free HXB.out 0
   go_wp2_with fail
   clear xc0 xf0 xl
   refine KC.out.mono ?_
   rintro e w4 ⟨rfl, hb4⟩
   have HXB4 := Lib.hid (gr_at (gr_below hb4 none) HXB.out (fun h => by cases h))
   have HRW4 := Lib.hid (gr_at (gr_below hb4 none) HRW.out (fun h => by cases h))
   have HG4 := Lib.hid (gr_none HG3.out (gr_below hb4 none))
   have HS4 := Lib.hid (HS3.out.inc (up_step (l' := []) (B' := w1.heap.size) (gr_below hb4 none) (fun _ h => by cases h) (fun _ _ h => h)))
   clear hb4 KC HRW
   have HRW := HRW4
   have xl := lt_of_block HXB4.out
   have xc0 := cell_of_blkP HXB4.out (j := 0) (u := .slice pv NV cv) rfl
   have xf0 := blk_free HXB4.out 0
   have rl := lt_of_block HRW.out
   have rc0 := cell_of_blkP HRW.out (j := 0) (u := .slice none 0 0) rfl
   have rf0 := blk_free HRW.out 0
   have hr1 : w.heap.size < w1.heap.size := lt_of_block HRB.out
   go_wp2_with fail
   have hS := heap_set (j := 0) (.slice none 0 0) HRW.out
   have hgs := gr_set w4 w.heap.size 0 (.slice none 0 0)
   have zl := lt_of_block hS
   have zc0 := cell_of_blkP hS (j := 0) (u := .slice none 0 0) rfl
   have zf0 := blk_free hS 0
   refine bodyPost_ret (v := .tuple #[.agg #[.slice none 0 0], .int .i64 0, .int .i64 8]) (by simp [results, Tryz.results10, go_sem, *]) rfl ⟨gr_fresh (gr_new HG4.out hgs (Nat.le_refl _)), .inr (.inr (.inl ⟨ts, cs, HSC.out, HEV.out, by rw [HZZ.out]; omega, rfl⟩))⟩
 ·have HEV := Lib.hid hev
  have HT := Lib.hid ht
  clear hev ht
  have hnb := new_at (w := w2) (o := .cells #[.slice none 0 0] 25) rfl
  have hbx := below_box w2 (.cells #[.slice none 0 0] 25)
  obtain ⟨w3, hw3⟩ : ∃ q, q = w2.alloc (.cells #[.slice none 0 0] 25) := ⟨_, rfl⟩
  rw [← hw3] at hnb hbx
  have HXB := Lib.hid hnb
  have HRW := Lib.hid (gr_at (gr_below (below_next hb2 hbx) none) HRB.out (fun h => by cases h))
  have HG3 := Lib.hid (gr_below (below_next HB1.out (below_next hb2 hbx)) none)
  have HW3 := Lib.hid hw3
  clear hnb hbx hb2 hw3 KR
  go_upto_region 2 with fail
  rw [← HW3.out]
  clear HW3
  have xl := lt_of_block HXB.out
  have xc0 := cell_of_blkP HXB.out (j := 0) (u := .slice none 0 0) rfl
  have xf0 := blk_free HXB.out 0
  have rl := lt_of_block HRW.out
  have rc0 := cell_of_blkP HRW.out (j := 0) (u := .slice none 0 0) rfl
  have rf0 := blk_free HRW.out 0
  go_wp2_with fail
  have hS := heap_set (j := 0) (.slice none 0 0) HRW.out
  have hgs := gr_set w3 w.heap.size 0 (.slice none 0 0)
  have zl := lt_of_block hS
  have zc0 := cell_of_blkP hS (j := 0) (u := .slice none 0 0) rfl
  have zf0 := blk_free hS 0
  refine bodyPost_ret (v := .tuple #[.agg #[.slice none 0 0], .int .i64 t.pos, .int .i64 3]) (by simp [results, Tryz.results10, go_sem, *]) rfl ⟨gr_fresh (gr_new HG3.out hgs (Nat.le_refl _)), .inr (.inr (.inr ⟨ts, k, t, HSC.out, HEV.out, hk, HT.out, rfl⟩))⟩
theorem topP_any (s : ByteArray) (w : World) (hE : LexEnv w) (hs : s.size ≤ 9223372036854775800) : Calls Tryz.prog 10 #[.string s] w (TopP s w) := by
 cases hsc : Lex.scan s.data.toList with
 | bad a er => exact topP_bad s w hE hs a er hsc
 | toks ts => exact topP_ok s w hE (by
  have h := hsc
  unfold Lex.scan at h
  split at h
  ·cases h
  ·rw [Lib.size_eq]; omega) ts hsc
set_option maxRecDepth 100000 in
set_option maxHeartbeats 8000000 in
theorem topE_bad (s : ByteArray) (w : World) (hE : LexEnv w) (hs : s.size ≤ 9223372036854775800) (a er : Nat) (hsc : Lex.scan s.data.toList = .bad a er) : Calls Tryz.prog 13 #[.string s] w (TopE s w) := by
 have hpos : 0 < er := scan_badpos hsc
 have hne : ((er : Int) == 0) = false := by rw [beq_eq_false_iff_ne]; omega
 have hb1 := below_box w (.cells #[.int .i64 0, .int .i64 0, .int .i64 0, .string ⟨#[]⟩, .bool false, .slice none 0 0] 33)
 have hR := new_at (w := w) (o := .cells #[.int .i64 0, .int .i64 0, .int .i64 0, .string ⟨#[]⟩, .bool false, .slice none 0 0] 33) rfl
 obtain ⟨w1, hw1⟩ : ∃ q, q = w.alloc (.cells #[.int .i64 0, .int .i64 0, .int .i64 0, .string ⟨#[]⟩, .bool false, .slice none 0 0] 33) := ⟨_, rfl⟩
 rw [← hw1] at hb1 hR
 have HW1 := Lib.hid hw1
 have HRB := Lib.hid hR
 have HB1 := Lib.hid hb1
 have HE := Lib.hid (hE.keep hb1)
 have HSC := Lib.hid hsc
 clear hb1 hR hw1 hE hsc
 have KR := Lib.hid (runE_bad s w1 HE.out hs a er HSC.out hpos)
 go_enter Tryz.func13, Tryz.ntmps13
 go_upto_region 1 with fail
 rw [← HW1.out]
 clear HW1
 go_wp2_with fail
 refine KR.out.mono ?_
 rintro e w2 ⟨rfl, hb2⟩
 have hnb := new_at (w := w2) (o := .cells #[.int .i64 0, .int .i64 0, .int .i64 0, .string ⟨#[]⟩, .bool false, .slice none 0 0] 33) rfl
 have hbx := below_box w2 (.cells #[.int .i64 0, .int .i64 0, .int .i64 0, .string ⟨#[]⟩, .bool false, .slice none 0 0] 33)
 obtain ⟨w3, hw3⟩ : ∃ q, q = w2.alloc (.cells #[.int .i64 0, .int .i64 0, .int .i64 0, .string ⟨#[]⟩, .bool false, .slice none 0 0] 33) := ⟨_, rfl⟩
 rw [← hw3] at hnb hbx
 have HXB := Lib.hid hnb
 have HRW := Lib.hid (gr_at (gr_below (below_next hb2 hbx) none) HRB.out (fun h => by cases h))
 have HG3 := Lib.hid (gr_below (below_next HB1.out (below_next hb2 hbx)) none)
 have HW3 := Lib.hid hw3
 clear hnb hbx hb2 hw3 KR
 go_upto_region 2 with fail
 rw [← HW3.out]
 clear HW3
 have xl := lt_of_block HXB.out
 have xc0 := cell_of_blkP HXB.out (j := 0) (u := .int .i64 0) rfl
 have xf0 := blk_free HXB.out 0
 have xc1 := cell_of_blkP HXB.out (j := 1) (u := .int .i64 0) rfl
 have xf1 := blk_free HXB.out 1
 have xc2 := cell_of_blkP HXB.out (j := 2) (u := .int .i64 0) rfl
 have xf2 := blk_free HXB.out 2
 have xc3 := cell_of_blkP HXB.out (j := 3) (u := .string ⟨#[]⟩) rfl
 have xf3 := blk_free HXB.out 3
 have xc4 := cell_of_blkP HXB.out (j := 4) (u := .bool false) rfl
 have xf4 := blk_free HXB.out 4
 have xc5 := cell_of_blkP HXB.out (j := 5) (u := .slice none 0 0) rfl
 have xf5 := blk_free HXB.out 5
 have rl := lt_of_block HRW.out
 have rc0 := cell_of_blkP HRW.out (j := 0) (u := .int .i64 0) rfl
 have rf0 := blk_free HRW.out 0
 have rc1 := cell_of_blkP HRW.out (j := 1) (u := .int .i64 0) rfl
 have rf1 := blk_free HRW.out 1
 have rc2 := cell_of_blkP HRW.out (j := 2) (u := .int .i64 0) rfl
 have rf2 := blk_free HRW.out 2
 have rc3 := cell_of_blkP HRW.out (j := 3) (u := .string ⟨#[]⟩) rfl
 have rf3 := blk_free HRW.out 3
 have rc4 := cell_of_blkP HRW.out (j := 4) (u := .bool false) rfl
 have rf4 := blk_free HRW.out 4
 have rc5 := cell_of_blkP HRW.out (j := 5) (u := .slice none 0 0) rfl
 have rf5 := blk_free HRW.out 5
 go_wp2_with fail
 have hS := set6_blk (.int .i64 0) (.int .i64 0) (.int .i64 0) (.string ⟨#[]⟩) (.bool false) (.slice none 0 0) HRW.out
 have hgs := set6_gr w3 w.heap.size (.int .i64 0) (.int .i64 0) (.int .i64 0) (.string ⟨#[]⟩) (.bool false) (.slice none 0 0)
 have zl := lt_of_block hS
 have zc0 := cell_of_blkP hS (j := 0) (u := .int .i64 0) rfl
 have zf0 := blk_free hS 0
 have zc1 := cell_of_blkP hS (j := 1) (u := .int .i64 0) rfl
 have zf1 := blk_free hS 1
 have zc2 := cell_of_blkP hS (j := 2) (u := .int .i64 0) rfl
 have zf2 := blk_free hS 2
 have zc3 := cell_of_blkP hS (j := 3) (u := .string ⟨#[]⟩) rfl
 have zf3 := blk_free hS 3
 have zc4 := cell_of_blkP hS (j := 4) (u := .bool false) rfl
 have zf4 := blk_free hS 4
 have zc5 := cell_of_blkP hS (j := 5) (u := .slice none 0 0) rfl
 have zf5 := blk_free hS 5
 refine bodyPost_ret (v := .tuple #[.agg #[.int .i64 0, .int .i64 0, .int .i64 0, .string ⟨#[]⟩, .bool false, .slice none 0 0], .int .i64 a, .int .i64 er]) (by simp [results, Tryz.results13, go_sem, *]) rfl ⟨gr_fresh (gr_new HG3.out hgs (Nat.le_refl _)), .inl ⟨a, er, HSC.out, rfl⟩⟩
set_option maxRecDepth 100000 in
set_option maxHeartbeats 8000000 in
theorem topE_ok (s : ByteArray) (w : World) (hE : LexEnv w) (hs : s.size ≤ 16384) (ts : List Lex.Tok) (hsc : Lex.scan s.data.toList = .toks ts) : Calls Tryz.prog 13 #[.string s] w (TopE s w) := by
 have hb1 := below_box w (.cells #[.int .i64 0, .int .i64 0, .int .i64 0, .string ⟨#[]⟩, .bool false, .slice none 0 0] 33)
 have hR := new_at (w := w) (o := .cells #[.int .i64 0, .int .i64 0, .int .i64 0, .string ⟨#[]⟩, .bool false, .slice none 0 0] 33) rfl
 obtain ⟨w1, hw1⟩ : ∃ q, q = w.alloc (.cells #[.int .i64 0, .int .i64 0, .int .i64 0, .string ⟨#[]⟩, .bool false, .slice none 0 0] 33) := ⟨_, rfl⟩
 rw [← hw1] at hb1 hR
 have HW1 := Lib.hid hw1
 have HRB := Lib.hid hR
 have HB1 := Lib.hid hb1
 have HE := Lib.hid (hE.keep hb1)
 have HSC := Lib.hid hsc
 clear hb1 hR hw1 hE hsc
 have KR := Lib.hid (runE_ok s w1 HE.out hs ts HSC.out)
 go_enter Tryz.func13, Tryz.ntmps13
 go_upto_region 1 with fail
 rw [← HW1.out]
 clear HW1
 go_wp2_with fail
 refine KR.out.mono ?_
 rintro e w2 ⟨hb2, ⟨e1, v, hev, rfl, ⟨a, rfl, hbd, hsl⟩⟩ | ⟨k, t, hev, hk, ht, rfl⟩⟩
 ·obtain ⟨pv, cv, rfl, _⟩ := hsl.form
  obtain ⟨NV, hNV⟩ : ∃ q, e1.args.length = q := ⟨_, rfl⟩
  rw [hNV] at hsl ⊢
  have HNV := Lib.hid hNV
  have hsz := (read_expr HSC.out (pX_ok hev)).2
  have HBD := Lib.hid hbd
  have HEV := Lib.hid hev
  clear hev hNV hbd
  unfold exprV
  have hnb := new_at (w := w2) (o := .cells #[.int .i64 e1.kind, .int .i64 e1.op, .int .i64 e1.int, .string e1.name, .bool e1.at_, .slice pv NV cv] 33) rfl
  have hbx := below_box w2 (.cells #[.int .i64 e1.kind, .int .i64 e1.op, .int .i64 e1.int, .string e1.name, .bool e1.at_, .slice pv NV cv] 33)
  obtain ⟨w3, hw3⟩ : ∃ q, q = w2.alloc (.cells #[.int .i64 e1.kind, .int .i64 e1.op, .int .i64 e1.int, .string e1.name, .bool e1.at_, .slice pv NV cv] 33) := ⟨_, rfl⟩
  rw [← hw3] at hnb hbx
  have HXB := Lib.hid hnb
  have HRW := Lib.hid (gr_at (gr_below (below_next hb2 hbx) none) HRB.out (fun h => by cases h))
  have HG3 := Lib.hid (gr_below (below_next HB1.out (below_next hb2 hbx)) none)
  have HW3 := Lib.hid hw3
  have HS3 := Lib.hid (hsl.inc (up_step (l' := []) (B' := w1.heap.size) (gr_below hbx none) (fun _ h => by cases h) (fun _ _ h => h)))
  clear hsl
  clear hnb hbx hb2 hw3 KR
  obtain ⟨ZZ, hZZ⟩ : ∃ q, Sy.sizeE e1 = q := ⟨_, rfl⟩
  have KC := count_any e1.deep e1 pv NV cv w3 (Nat.le_refl _) HNV.out (HS3.out.inc (hide_inc _ _)) (by omega)
  rw [hZZ] at KC hsz
  unfold exprV at KC
  have KC := Lib.hid KC
  have HZZ := Lib.hid hZZ
  clear hZZ
  go_upto_region 2 with fail
  rw [← HW3.out]
  clear HW3
  by_cases h4 : ZZ ≤ 4000
  ·have hz4 : (ZZ : Int) ≤ 4000 := by omega
   have xl := lt_of_block HXB.out
   have xc0 := cell_of_blkP HXB.out (j := 0) (u := .int .i64 e1.kind) rfl
   have xf0 := blk_free HXB.out 0
   have xc1 := cell_of_blkP HXB.out (j := 1) (u := .int .i64 e1.op) rfl
   have xf1 := blk_free HXB.out 1
   have xc2 := cell_of_blkP HXB.out (j := 2) (u := .int .i64 e1.int) rfl
   have xf2 := blk_free HXB.out 2
   have xc3 := cell_of_blkP HXB.out (j := 3) (u := .string e1.name) rfl
   have xf3 := blk_free HXB.out 3
   have xc4 := cell_of_blkP HXB.out (j := 4) (u := .bool e1.at_) rfl
   have xf4 := blk_free HXB.out 4
   have xc5 := cell_of_blkP HXB.out (j := 5) (u := .slice pv NV cv) rfl
   have xf5 := blk_free HXB.out 5
   go_wp2_with fail
   clear xc0 xf0 xc1 xf1 xc2 xf2 xc3 xf3 xc4 xf4 xc5 xf5 xl
   refine KC.out.mono ?_
   rintro e w4 ⟨rfl, hb4⟩
   have HXB4 := Lib.hid (gr_at (gr_below hb4 none) HXB.out (fun h => by cases h))
   have HRW4 := Lib.hid (gr_at (gr_below hb4 none) HRW.out (fun h => by cases h))
   have HG4 := Lib.hid (gr_none HG3.out (gr_below hb4 none))
   have HS4 := Lib.hid (HS3.out.inc (up_step (l' := []) (B' := w1.heap.size) (gr_below hb4 none) (fun _ h => by cases h) (fun _ _ h => h)))
   clear hb4 KC HRW
   have HRW := HRW4
   have xl := lt_of_block HXB4.out
   have xc0 := cell_of_blkP HXB4.out (j := 0) (u := .int .i64 e1.kind) rfl
   have xf0 := blk_free HXB4.out 0
   have xc1 := cell_of_blkP HXB4.out (j := 1) (u := .int .i64 e1.op) rfl
   have xf1 := blk_free HXB4.out 1
   have xc2 := cell_of_blkP HXB4.out (j := 2) (u := .int .i64 e1.int) rfl
   have xf2 := blk_free HXB4.out 2
   have xc3 := cell_of_blkP HXB4.out (j := 3) (u := .string e1.name) rfl
   have xf3 := blk_free HXB4.out 3
   have xc4 := cell_of_blkP HXB4.out (j := 4) (u := .bool e1.at_) rfl
   have xf4 := blk_free HXB4.out 4
   have xc5 := cell_of_blkP HXB4.out (j := 5) (u := .slice pv NV cv) rfl
   have xf5 := blk_free HXB4.out 5
   have rl := lt_of_block HRW.out
   have rc0 := cell_of_blkP HRW.out (j := 0) (u := .int .i64 0) rfl
   have rf0 := blk_free HRW.out 0
   have rc1 := cell_of_blkP HRW.out (j := 1) (u := .int .i64 0) rfl
   have rf1 := blk_free HRW.out 1
   have rc2 := cell_of_blkP HRW.out (j := 2) (u := .int .i64 0) rfl
   have rf2 := blk_free HRW.out 2
   have rc3 := cell_of_blkP HRW.out (j := 3) (u := .string ⟨#[]⟩) rfl
   have rf3 := blk_free HRW.out 3
   have rc4 := cell_of_blkP HRW.out (j := 4) (u := .bool false) rfl
   have rf4 := blk_free HRW.out 4
   have rc5 := cell_of_blkP HRW.out (j := 5) (u := .slice none 0 0) rfl
   have rf5 := blk_free HRW.out 5
   have hr1 : w.heap.size < w1.heap.size := lt_of_block HRB.out
   go_wp2_with fail
   have hS := set6_blk (.int .i64 e1.kind) (.int .i64 e1.op) (.int .i64 e1.int) (.string e1.name) (.bool e1.at_) (.slice pv NV cv) HRW.out
   have hgs := set6_gr w4 w.heap.size (.int .i64 e1.kind) (.int .i64 e1.op) (.int .i64 e1.int) (.string e1.name) (.bool e1.at_) (.slice pv NV cv)
   have zl := lt_of_block hS
   have zc0 := cell_of_blkP hS (j := 0) (u := .int .i64 e1.kind) rfl
   have zf0 := blk_free hS 0
   have zc1 := cell_of_blkP hS (j := 1) (u := .int .i64 e1.op) rfl
   have zf1 := blk_free hS 1
   have zc2 := cell_of_blkP hS (j := 2) (u := .int .i64 e1.int) rfl
   have zf2 := blk_free hS 2
   have zc3 := cell_of_blkP hS (j := 3) (u := .string e1.name) rfl
   have zf3 := blk_free hS 3
   have zc4 := cell_of_blkP hS (j := 4) (u := .bool e1.at_) rfl
   have zf4 := blk_free hS 4
   have zc5 := cell_of_blkP hS (j := 5) (u := .slice pv NV cv) rfl
   have zf5 := blk_free hS 5
   refine bodyPost_ret (v := .tuple #[exprV e1 (.slice pv NV cv), .int .i64 0, .int .i64 0]) (by simp [results, Tryz.results13, go_sem, exprV, *]) rfl ⟨gr_fresh (gr_new HG4.out hgs (Nat.le_refl _)), .inr (.inl ⟨ts, e1, _, HSC.out, HEV.out, by rw [HZZ.out]; exact h4, rfl, ⟨_, rfl, HBD.out, (HS4.out.inc (up_step (l' := []) (B' := w1.heap.size) hgs (fun q hq => .inl (by injection hq; omega)) (fun _ _ h => h))).inc (hide_inc _ _)⟩⟩)⟩
  ·have hz4 : (4000 : Int) < (ZZ : Int) := by omega
   have xl := lt_of_block HXB.out
   have xc0 := cell_of_blkP HXB.out (j := 0) (u := .int .i64 e1.kind) rfl
   have xf0 := blk_free HXB.out 0
   have xc1 := cell_of_blkP HXB.out (j := 1) (u := .int .i64 e1.op) rfl
   have xf1 := blk_free HXB.out 1
   have xc2 := cell_of_blkP HXB.out (j := 2) (u := .int .i64 e1.int) rfl
   have xf2 := blk_free HXB.out 2
   have xc3 := cell_of_blkP HXB.out (j := 3) (u := .string e1.name) rfl
   have xf3 := blk_free HXB.out 3
   have xc4 := cell_of_blkP HXB.out (j := 4) (u := .bool e1.at_) rfl
   have xf4 := blk_free HXB.out 4
   have xc5 := cell_of_blkP HXB.out (j := 5) (u := .slice pv NV cv) rfl
   have xf5 := blk_free HXB.out 5
   go_wp2_with fail
   clear xc0 xf0 xc1 xf1 xc2 xf2 xc3 xf3 xc4 xf4 xc5 xf5 xl
   refine KC.out.mono ?_
   rintro e w4 ⟨rfl, hb4⟩
   have HXB4 := Lib.hid (gr_at (gr_below hb4 none) HXB.out (fun h => by cases h))
   have HRW4 := Lib.hid (gr_at (gr_below hb4 none) HRW.out (fun h => by cases h))
   have HG4 := Lib.hid (gr_none HG3.out (gr_below hb4 none))
   have HS4 := Lib.hid (HS3.out.inc (up_step (l' := []) (B' := w1.heap.size) (gr_below hb4 none) (fun _ h => by cases h) (fun _ _ h => h)))
   clear hb4 KC HRW
   have HRW := HRW4
   have xl := lt_of_block HXB4.out
   have xc0 := cell_of_blkP HXB4.out (j := 0) (u := .int .i64 e1.kind) rfl
   have xf0 := blk_free HXB4.out 0
   have xc1 := cell_of_blkP HXB4.out (j := 1) (u := .int .i64 e1.op) rfl
   have xf1 := blk_free HXB4.out 1
   have xc2 := cell_of_blkP HXB4.out (j := 2) (u := .int .i64 e1.int) rfl
   have xf2 := blk_free HXB4.out 2
   have xc3 := cell_of_blkP HXB4.out (j := 3) (u := .string e1.name) rfl
   have xf3 := blk_free HXB4.out 3
   have xc4 := cell_of_blkP HXB4.out (j := 4) (u := .bool e1.at_) rfl
   have xf4 := blk_free HXB4.out 4
   have xc5 := cell_of_blkP HXB4.out (j := 5) (u := .slice pv NV cv) rfl
   have xf5 := blk_free HXB4.out 5
   have rl := lt_of_block HRW.out
   have rc0 := cell_of_blkP HRW.out (j := 0) (u := .int .i64 0) rfl
   have rf0 := blk_free HRW.out 0
   have rc1 := cell_of_blkP HRW.out (j := 1) (u := .int .i64 0) rfl
   have rf1 := blk_free HRW.out 1
   have rc2 := cell_of_blkP HRW.out (j := 2) (u := .int .i64 0) rfl
   have rf2 := blk_free HRW.out 2
   have rc3 := cell_of_blkP HRW.out (j := 3) (u := .string ⟨#[]⟩) rfl
   have rf3 := blk_free HRW.out 3
   have rc4 := cell_of_blkP HRW.out (j := 4) (u := .bool false) rfl
   have rf4 := blk_free HRW.out 4
   have rc5 := cell_of_blkP HRW.out (j := 5) (u := .slice none 0 0) rfl
   have rf5 := blk_free HRW.out 5
   have hr1 : w.heap.size < w1.heap.size := lt_of_block HRB.out
   go_wp2_with fail
   have hS := set6_blk (.int .i64 0) (.int .i64 0) (.int .i64 0) (.string ⟨#[]⟩) (.bool false) (.slice none 0 0) HRW.out
   have hgs := set6_gr w4 w.heap.size (.int .i64 0) (.int .i64 0) (.int .i64 0) (.string ⟨#[]⟩) (.bool false) (.slice none 0 0)
   have zl := lt_of_block hS
   have zc0 := cell_of_blkP hS (j := 0) (u := .int .i64 0) rfl
   have zf0 := blk_free hS 0
   have zc1 := cell_of_blkP hS (j := 1) (u := .int .i64 0) rfl
   have zf1 := blk_free hS 1
   have zc2 := cell_of_blkP hS (j := 2) (u := .int .i64 0) rfl
   have zf2 := blk_free hS 2
   have zc3 := cell_of_blkP hS (j := 3) (u := .string ⟨#[]⟩) rfl
   have zf3 := blk_free hS 3
   have zc4 := cell_of_blkP hS (j := 4) (u := .bool false) rfl
   have zf4 := blk_free hS 4
   have zc5 := cell_of_blkP hS (j := 5) (u := .slice none 0 0) rfl
   have zf5 := blk_free hS 5
   refine bodyPost_ret (v := .tuple #[.agg #[.int .i64 0, .int .i64 0, .int .i64 0, .string ⟨#[]⟩, .bool false, .slice none 0 0], .int .i64 0, .int .i64 8]) (by simp [results, Tryz.results13, go_sem, *]) rfl ⟨gr_fresh (gr_new HG4.out hgs (Nat.le_refl _)), .inr (.inr (.inl ⟨ts, e1, HSC.out, HEV.out, by rw [HZZ.out]; omega, rfl⟩))⟩
 ·have HEV := Lib.hid hev
  have HT := Lib.hid ht
  clear hev ht
  have hnb := new_at (w := w2) (o := .cells #[.int .i64 0, .int .i64 0, .int .i64 0, .string ⟨#[]⟩, .bool false, .slice none 0 0] 33) rfl
  have hbx := below_box w2 (.cells #[.int .i64 0, .int .i64 0, .int .i64 0, .string ⟨#[]⟩, .bool false, .slice none 0 0] 33)
  obtain ⟨w3, hw3⟩ : ∃ q, q = w2.alloc (.cells #[.int .i64 0, .int .i64 0, .int .i64 0, .string ⟨#[]⟩, .bool false, .slice none 0 0] 33) := ⟨_, rfl⟩
  rw [← hw3] at hnb hbx
  have HXB := Lib.hid hnb
  have HRW := Lib.hid (gr_at (gr_below (below_next hb2 hbx) none) HRB.out (fun h => by cases h))
  have HG3 := Lib.hid (gr_below (below_next HB1.out (below_next hb2 hbx)) none)
  have HW3 := Lib.hid hw3
  clear hnb hbx hb2 hw3 KR
  go_upto_region 2 with fail
  rw [← HW3.out]
  clear HW3
  have xl := lt_of_block HXB.out
  have xc0 := cell_of_blkP HXB.out (j := 0) (u := .int .i64 0) rfl
  have xf0 := blk_free HXB.out 0
  have xc1 := cell_of_blkP HXB.out (j := 1) (u := .int .i64 0) rfl
  have xf1 := blk_free HXB.out 1
  have xc2 := cell_of_blkP HXB.out (j := 2) (u := .int .i64 0) rfl
  have xf2 := blk_free HXB.out 2
  have xc3 := cell_of_blkP HXB.out (j := 3) (u := .string ⟨#[]⟩) rfl
  have xf3 := blk_free HXB.out 3
  have xc4 := cell_of_blkP HXB.out (j := 4) (u := .bool false) rfl
  have xf4 := blk_free HXB.out 4
  have xc5 := cell_of_blkP HXB.out (j := 5) (u := .slice none 0 0) rfl
  have xf5 := blk_free HXB.out 5
  have rl := lt_of_block HRW.out
  have rc0 := cell_of_blkP HRW.out (j := 0) (u := .int .i64 0) rfl
  have rf0 := blk_free HRW.out 0
  have rc1 := cell_of_blkP HRW.out (j := 1) (u := .int .i64 0) rfl
  have rf1 := blk_free HRW.out 1
  have rc2 := cell_of_blkP HRW.out (j := 2) (u := .int .i64 0) rfl
  have rf2 := blk_free HRW.out 2
  have rc3 := cell_of_blkP HRW.out (j := 3) (u := .string ⟨#[]⟩) rfl
  have rf3 := blk_free HRW.out 3
  have rc4 := cell_of_blkP HRW.out (j := 4) (u := .bool false) rfl
  have rf4 := blk_free HRW.out 4
  have rc5 := cell_of_blkP HRW.out (j := 5) (u := .slice none 0 0) rfl
  have rf5 := blk_free HRW.out 5
  go_wp2_with fail
  have hS := set6_blk (.int .i64 0) (.int .i64 0) (.int .i64 0) (.string ⟨#[]⟩) (.bool false) (.slice none 0 0) HRW.out
  have hgs := set6_gr w3 w.heap.size (.int .i64 0) (.int .i64 0) (.int .i64 0) (.string ⟨#[]⟩) (.bool false) (.slice none 0 0)
  have zl := lt_of_block hS
  have zc0 := cell_of_blkP hS (j := 0) (u := .int .i64 0) rfl
  have zf0 := blk_free hS 0
  have zc1 := cell_of_blkP hS (j := 1) (u := .int .i64 0) rfl
  have zf1 := blk_free hS 1
  have zc2 := cell_of_blkP hS (j := 2) (u := .int .i64 0) rfl
  have zf2 := blk_free hS 2
  have zc3 := cell_of_blkP hS (j := 3) (u := .string ⟨#[]⟩) rfl
  have zf3 := blk_free hS 3
  have zc4 := cell_of_blkP hS (j := 4) (u := .bool false) rfl
  have zf4 := blk_free hS 4
  have zc5 := cell_of_blkP hS (j := 5) (u := .slice none 0 0) rfl
  have zf5 := blk_free hS 5
  refine bodyPost_ret (v := .tuple #[.agg #[.int .i64 0, .int .i64 0, .int .i64 0, .string ⟨#[]⟩, .bool false, .slice none 0 0], .int .i64 t.pos, .int .i64 3]) (by simp [results, Tryz.results13, go_sem, *]) rfl ⟨gr_fresh (gr_new HG3.out hgs (Nat.le_refl _)), .inr (.inr (.inr ⟨ts, k, t, HSC.out, HEV.out, hk, HT.out, rfl⟩))⟩
theorem topE_any (s : ByteArray) (w : World) (hE : LexEnv w) (hs : s.size ≤ 9223372036854775800) : Calls Tryz.prog 13 #[.string s] w (TopE s w) := by
 cases hsc : Lex.scan s.data.toList with
 | bad a er => exact topE_bad s w hE hs a er hsc
 | toks ts => exact topE_ok s w hE (by
  have h := hsc
  unfold Lex.scan at h
  split at h
  ·cases h
  ·rw [Lib.size_eq]; omega) ts hsc
end Go.Proofs.YtdckddkalgnlpaaGreatDoor
namespace Go.Proofs.YtdckddkalgnlpaaGreatDoor
open Go.RowKit
theorem argAt {w : World} {p : Option Addr} {N c : Nat} {ls : List Tr.E} (hS : SlE w (.slice p N c) ls) {j : Nat} {x : Tr.E} (hx : ls[j]? = some x) :
 ∃ b o pa AN ca, p = some ⟨b, o, none⟩ ∧ x.args.length = AN ∧ CellsE w b (o + j * 6) x (.slice pa AN ca) ∧ SlE w (.slice pa AN ca) x.args := by
 obtain ⟨b, o, a, h1, _, hc, _, hsl⟩ := hS.get hx
 obtain ⟨pa, ca, rfl, _⟩ := hsl.form
 exact ⟨b, o, pa, _, ca, h1, rfl, hc, hsl⟩
end Go.Proofs.YtdckddkalgnlpaaGreatDoor
