/-
  Several texts in one: PbTop, PbAw, PbJoin, SyEqE, SyEqX.
-/
import Derived.Test.YtdckddkalgnlpaaGreatDoorV19
import Derived.Test.YtdckddkalgnlpaaGreatDoorV20
import Derived.Test.YtdckddkalgnlpaaGreatDoorV27
import Derived.Test.YtdckddkalgnlpaaGreatDoorV28
import Derived.Test.YtdckddkalgnlpaaGreatDoorV3
import Derived.Test.YtdckddkalgnlpaaGreatDoorV18
namespace Go.Proofs.YtdckddkalgnlpaaGreatDoor
open Go.RowKit Go.Maps Pw
def TopP (s : ByteArray) (w : World) (e : Ending) (w' : World) : Prop := Below w.heap.size w w' ∧
 ((∃ a er : Nat, Lex.scan s.data.toList = .bad a er ∧ e = .returned (.tuple #[.agg #[.slice none 0 0], .int .i64 a, .int .i64 er])) ∨
  (∃ ts x v, Lex.scan s.data.toList = .toks ts ∧ Pa.Ev (fun f => Pa.pP f [] (Pa.rest ts (ts.length - 1) 0)) (.ok x []) ∧ Sy.sizeP x ≤ 4000 ∧ e = .returned (.tuple #[.agg #[v], .int .i64 0, .int .i64 0]) ∧ SlC w' v x) ∨
  (∃ ts x, Lex.scan s.data.toList = .toks ts ∧ Pa.Ev (fun f => Pa.pP f [] (Pa.rest ts (ts.length - 1) 0)) (.ok x []) ∧ 4000 < Sy.sizeP x ∧ e = .returned (.tuple #[.agg #[.slice none 0 0], .int .i64 0, .int .i64 8])) ∨
  (∃ ts k t, Lex.scan s.data.toList = .toks ts ∧ Pa.Ev (fun f => Pa.pP f [] (Pa.rest ts (ts.length - 1) 0)) (.bad (Pa.rest ts (ts.length - 1) k)) ∧ k ≤ ts.length - 1 ∧ ts[k]? = some t ∧ e = .returned (.tuple #[.agg #[.slice none 0 0], .int .i64 t.pos, .int .i64 3])))
def TopE (s : ByteArray) (w : World) (e : Ending) (w' : World) : Prop := Below w.heap.size w w' ∧
 ((∃ a er : Nat, Lex.scan s.data.toList = .bad a er ∧ e = .returned (.tuple #[.agg #[.int .i64 0, .int .i64 0, .int .i64 0, .string ⟨#[]⟩, .bool false, .slice none 0 0], .int .i64 a, .int .i64 er])) ∨
  (∃ ts x v, Lex.scan s.data.toList = .toks ts ∧ Pa.Ev (fun f => Pa.pX f (Pa.rest ts (ts.length - 1) 0)) (.ok x []) ∧ Sy.sizeE x ≤ 4000 ∧ e = .returned (.tuple #[v, .int .i64 0, .int .i64 0]) ∧ rdE w' v x) ∨
  (∃ ts x, Lex.scan s.data.toList = .toks ts ∧ Pa.Ev (fun f => Pa.pX f (Pa.rest ts (ts.length - 1) 0)) (.ok x []) ∧ 4000 < Sy.sizeE x ∧ e = .returned (.tuple #[.agg #[.int .i64 0, .int .i64 0, .int .i64 0, .string ⟨#[]⟩, .bool false, .slice none 0 0], .int .i64 0, .int .i64 8])) ∨
  (∃ ts k t, Lex.scan s.data.toList = .toks ts ∧ Pa.Ev (fun f => Pa.pX f (Pa.rest ts (ts.length - 1) 0)) (.bad (Pa.rest ts (ts.length - 1) k)) ∧ k ≤ ts.length - 1 ∧ ts[k]? = some t ∧ e = .returned (.tuple #[.agg #[.int .i64 0, .int .i64 0, .int .i64 0, .string ⟨#[]⟩, .bool false, .slice none 0 0], .int .i64 t.pos, .int .i64 3])))
theorem pX_ok {ts : Pa.Toks} {x : Tr.E} {r : Pa.Toks} (h : Pa.Ev (fun f => Pa.pX f ts) (.ok x r)) : Pa.Ev (fun f => Pa.pE f 0 ts) (.ok x []) := by
 obtain ⟨F, h⟩ := h
 refine ⟨F, fun f hf => ?_⟩
 have h1 := h f hf
 have h2 : (Pa.pE f 0 ts).bind (fun e r => if r = [] then .ok e [] else .bad r) = .ok x r := h1
 show Pa.pE f 0 ts = _
 cases hp : Pa.pE f 0 ts with
 | bad q => rw [hp] at h2; cases h2
 | ok a q =>
   rw [hp] at h2
   have h3 : (if q = [] then (.ok a [] : Pa.R Tr.E) else .bad q) = .ok x r := h2
   by_cases hq : q = []
   ·rw [if_pos hq] at h3
    cases h3
    rw [hq]
   ·rw [if_neg hq] at h3
    cases h3
set_option maxRecDepth 100000 in
set_option maxHeartbeats 8000000 in
theorem topP_bad (s : ByteArray) (w : World) (hE : LexEnv w) (hs : s.size ≤ 9223372036854775800) (a er : Nat) (hsc : Lex.scan s.data.toList = .bad a er) : Calls Tryz.prog 10 #[.string s] w (TopP s w) := by
 have hpos : 0 < er := scan_badpos hsc
 have hne : ((er : Int) == 0) = false := by rw [beq_eq_false_iff_ne]; omega
 have hb1 := below_box w (.cells #[.slice none 0 0] 25)
 have hR := new_at (w := w) (o := .cells #[.slice none 0 0] 25) rfl
 obtain ⟨w1, hw1⟩ : ∃ q, q = w.alloc (.cells #[.slice none 0 0] 25) := ⟨_, rfl⟩
 rw [← hw1] at hb1 hR
 have HW1 := Lib.hid hw1
 have HRB := Lib.hid hR
 have HB1 := Lib.hid hb1
 have HE := Lib.hid (hE.keep hb1)
 have HSC := Lib.hid hsc
 clear hb1 hR hw1 hE hsc
 have KR := Lib.hid (runP_bad s w1 HE.out hs a er HSC.out hpos)
 go_enter Tryz.func10, Tryz.ntmps10
 go_upto_region 1 with fail
 rw [← HW1.out]
 clear HW1
 go_wp2_with fail
 refine KR.out.mono ?_
 rintro e w2 ⟨rfl, hb2⟩
 have hnb := new_at (w := w2) (o := .cells #[.slice none 0 0] 25) rfl
 have hbx := below_box w2 (.cells #[.slice none 0 0] 25)
 obtain ⟨w3, hw3⟩ : ∃ q, q = w2.alloc (.cells #[.slice none 0 0] 25) := ⟨_, rfl⟩
 rw [← hw3] at hnb hbx
 have HXB := Lib.hid hnb
 have HRW := Lib.hid (gr_at (gr_below (below_next hb2 hbx) none) HRB.out (fun h => by cases h))
 have HG3 := Lib.hid (gr_below (below_next HB1.out (below_next hb2 hbx)) none)
 have HW3 := Lib.hid hw3
 clear hnb hbx hb2 hw3 KR
 go_upto_region 2 with fail
 rw [← HW3.out]
 clear HW3
 have xl := lt_of_block HXB.out
 have xc0 := cell_of_blkP HXB.out (j := 0) (u := .slice none 0 0) rfl
 have xf0 := blk_free HXB.out 0
 have rl := lt_of_block HRW.out
 have rc0 := cell_of_blkP HRW.out (j := 0) (u := .slice none 0 0) rfl
 have rf0 := blk_free HRW.out 0
 go_wp2_with fail
 have hS := heap_set (j := 0) (.slice none 0 0) HRW.out
 have hgs := gr_set w3 w.heap.size 0 (.slice none 0 0)
 have zl := lt_of_block hS
 have zc0 := cell_of_blkP hS (j := 0) (u := .slice none 0 0) rfl
 have zf0 := blk_free hS 0
 refine bodyPost_ret (v := .tuple #[.agg #[.slice none 0 0], .int .i64 a, .int .i64 er]) (by simp [results, Tryz.results10, go_sem, *]) rfl ⟨gr_fresh (gr_new HG3.out hgs (Nat.le_refl _)), .inl ⟨a, er, HSC.out, rfl⟩⟩
set_option maxRecDepth 100000 in
set_option maxHeartbeats 8000000 in
theorem topP_ok (s : ByteArray) (w : World) (hE : LexEnv w) (hs : s.size ≤ 16384) (ts : List Lex.Tok) (hsc : Lex.scan s.data.toList = .toks ts) : Calls Tryz.prog 10 #[.string s] w (TopP s w) := by
 have hb1 := below_box w (.cells #[.slice none 0 0] 25)
 have hR := new_at (w := w) (o := .cells #[.slice none 0 0] 25) rfl
 obtain ⟨w1, hw1⟩ : ∃ q, q = w.alloc (.cells #[.slice none 0 0] 25) := ⟨_, rfl⟩
 rw [← hw1] at hb1 hR
 have HW1 := Lib.hid hw1
 have HRB := Lib.hid hR
 have HB1 := Lib.hid hb1
 have HE := Lib.hid (hE.keep hb1)
 have HSC := Lib.hid hsc
 clear hb1 hR hw1 hE hsc
 have KR := Lib.hid (runP_ok s w1 HE.out hs ts HSC.out)
 go_enter Tryz.func10, Tryz.ntmps10
 go_upto_region 1 with fail
 rw [← HW1.out]
 clear HW1
 go_wp2_with fail
 refine KR.out.mono ?_
 rintro e w2 ⟨hb2, ⟨cs, v, hev, rfl, hsl⟩ | ⟨k, t, hev, hk, ht, rfl⟩⟩
 ·obtain ⟨pv, cv, rfl⟩ := hsl.form
  obtain ⟨NV, hNV⟩ : ∃ q, cs.length = q := ⟨_, rfl⟩
  rw [hNV] at hsl ⊢
  have hsz := (read_prog HSC.out hev).2
  have HEV := Lib.hid hev
  clear hev hNV
  have hnb := new_at (w := w2) (o := .cells #[.slice pv NV cv] 25) rfl
  have hbx := below_box w2 (.cells #[.slice pv NV cv] 25)
  obtain ⟨w3, hw3⟩ : ∃ q, q = w2.alloc (.cells #[.slice pv NV cv] 25) := ⟨_, rfl⟩
  rw [← hw3] at hnb hbx
  have HXB := Lib.hid hnb
  have HRW := Lib.hid (gr_at (gr_below (below_next hb2 hbx) none) HRB.out (fun h => by cases h))
  have HG3 := Lib.hid (gr_below (below_next HB1.out (below_next hb2 hbx)) none)
  have HW3 := Lib.hid hw3
  have HS3 := Lib.hid (hsl.inc (up_step (l' := []) (B' := w1.heap.size) (gr_below hbx none) (fun _ h => by cases h) (fun _ _ h => h)))
  clear hsl
  clear hnb hbx hb2 hw3 KR
  obtain ⟨ZZ, hZZ⟩ : ∃ q, Sy.sizeP cs = q := ⟨_, rfl⟩
  have KC := size_any (.slice pv NV cv) cs w3 (HS3.out.inc (hide_inc _ _)) (by omega)
  rw [hZZ] at KC hsz
  have KC := Lib.hid KC
  have HZZ := Lib.hid hZZ
  clear hZZ
  go_upto_region 2 with fail
  rw [← HW3.out]
  clear HW3
  by_cases h4 : ZZ ≤ 4000
  ·have hz4 : (ZZ : Int) ≤ 4000 := by omega
   have xl := lt_of_block HXB.out
   have xc0 := cell_of_blkP HXB.out (j := 0) (u := .slice pv NV cv) rfl
   have xf0 := blk_free HXB.out 0
   go_wp2_with fail
   clear xc0 xf0 xl
   refine KC.out.mono ?_
   rintro e w4 ⟨rfl, hb4⟩
   have HXB4 := Lib.hid (gr_at (gr_below hb4 none) HXB.out (fun h => by cases h))
   have HRW4 := Lib.hid (gr_at (gr_below hb4 none) HRW.out (fun h => by cases h))
   have HG4 := Lib.hid (gr_none HG3.out (gr_below hb4 none))
   have HS4 := Lib.hid (HS3.out.inc (up_step (l' := []) (B' := w1.heap.size) (gr_below hb4 none) (fun _ h => by cases h) (fun _ _ h => h)))
   clear hb4 KC HRW
   have HRW := HRW4
   have xl := lt_of_block HXB4.out
   have xc0 := cell_of_blkP HXB4.out (j := 0) (u := .slice pv NV cv) rfl
   have xf0 := blk_free HXB4.out 0
   have rl := lt_of_block HRW.out
   have rc0 := cell_of_blkP HRW.out (j := 0) (u := .slice none 0 0) rfl
   have rf0 := blk_free HRW.out 0
   have hr1 : w.heap.size < w1.heap.size := lt_of_block HRB.out
   go_wp2_with fail
   have hS := heap_set (j := 0) (.slice pv NV cv) HRW.out
   have hgs := gr_set w4 w.heap.size 0 (.slice pv NV cv)
   have zl := lt_of_block hS
   have zc0 := cell_of_blkP hS (j := 0) (u := .slice pv NV cv) rfl
   have zf0 := blk_free hS 0
   refine bodyPost_ret (v := .tuple #[.agg #[.slice pv NV cv], .int .i64 0, .int .i64 0]) (by simp [results, Tryz.results10, go_sem, *]) rfl ⟨gr_fresh (gr_new HG4.out hgs (Nat.le_refl _)), .inr (.inl ⟨ts, cs, _, HSC.out, HEV.out, by rw [HZZ.out]; exact h4, rfl, (HS4.out.inc (up_step (l' := []) (B' := w1.heap.size) hgs (fun q hq => .inl (by injection hq; omega)) (fun _ _ h => h))).inc (hide_inc _ _)⟩)⟩
  ·have hz4 : (4000 : Int) < (ZZ : Int) := by omega
   have xl := lt_of_block HXB.out
   have xc0 := cell_of_blkP HXB.out (j := 0) (u := .slice pv NV cv) rfl
   have xf0 := blk_free HXB.out 0
   go_wp2_with fail
   clear xc0 xf0 xl
   refine KC.out.mono ?_
   rintro e w4 ⟨rfl, hb4⟩
   have HXB4 := Lib.hid (gr_at (gr_below hb4 none) HXB.out (fun h => by cases h))
   have HRW4 := Lib.hid (gr_at (gr_below hb4 none) HRW.out (fun h => by cases h))
   have HG4 := Lib.hid (gr_none HG3.out (gr_below hb4 none))
   have HS4 := Lib.hid (HS3.out.inc (up_step (l' := []) (B' := w1.heap.size) (gr_below hb4 none) (fun _ h => by cases h) (fun _ _ h => h)))
   clear hb4 KC HRW
   have HRW := HRW4
   have xl := lt_of_block HXB4.out
   have xc0 := cell_of_blkP HXB4.out (j := 0) (u := .slice pv NV cv) rfl
   have xf0 := blk_free HXB4.out 0
   have rl := lt_of_block HRW.out
   have rc0 := cell_of_blkP HRW.out (j := 0) (u := .slice none 0 0) rfl
   have rf0 := blk_free HRW.out 0
   have hr1 : w.heap.size < w1.heap.size := lt_of_block HRB.out
   go_wp2_with fail
   have hS := heap_set (j := 0) (.slice none 0 0) HRW.out
   have hgs := gr_set w4 w.heap.size 0 (.slice none 0 0)
   have zl := lt_of_block hS
   have zc0 := cell_of_blkP hS (j := 0) (u := .slice none 0 0) rfl
   have zf0 := blk_free hS 0
   refine bodyPost_ret (v := .tuple #[.agg #[.slice none 0 0], .int .i64 0, .int .i64 8]) (by simp [results, Tryz.results10, go_sem, *]) rfl ⟨gr_fresh (gr_new HG4.out hgs (Nat.le_refl _)), .inr (.inr (.inl ⟨ts, cs, HSC.out, HEV.out, by rw [HZZ.out]; omega, rfl⟩))⟩
 ·have HEV := Lib.hid hev
  have HT := Lib.hid ht
  clear hev ht
  have hnb := new_at (w := w2) (o := .cells #[.slice none 0 0] 25) rfl
  have hbx := below_box w2 (.cells #[.slice none 0 0] 25)
  obtain ⟨w3, hw3⟩ : ∃ q, q = w2.alloc (.cells #[.slice none 0 0] 25) := ⟨_, rfl⟩
  rw [← hw3] at hnb hbx
  have HXB := Lib.hid hnb
  have HRW := Lib.hid (gr_at (gr_below (below_next hb2 hbx) none) HRB.out (fun h => by cases h))
  have HG3 := Lib.hid (gr_below (below_next HB1.out (below_next hb2 hbx)) none)
  have HW3 := Lib.hid hw3
  clear hnb hbx hb2 hw3 KR
  go_upto_region 2 with fail
  rw [← HW3.out]
  clear HW3
  have xl := lt_of_block HXB.out
  have xc0 := cell_of_blkP HXB.out (j := 0) (u := .slice none 0 0) rfl
  have xf0 := blk_free HXB.out 0
  have rl := lt_of_block HRW.out
  have rc0 := cell_of_blkP HRW.out (j := 0) (u := .slice none 0 0) rfl
  have rf0 := blk_free HRW.out 0
  go_wp2_with fail
  have hS := heap_set (j := 0) (.slice none 0 0) HRW.out
  have hgs := gr_set w3 w.heap.size 0 (.slice none 0 0)
  have zl := lt_of_block hS
  have zc0 := cell_of_blkP hS (j := 0) (u := .slice none 0 0) rfl
  have zf0 := blk_free hS 0
  refine bodyPost_ret (v := .tuple #[.agg #[.slice none 0 0], .int .i64 t.pos, .int .i64 3]) (by simp [results, Tryz.results10, go_sem, *]) rfl ⟨gr_fresh (gr_new HG3.out hgs (Nat.le_refl _)), .inr (.inr (.inr ⟨ts, k, t, HSC.out, HEV.out, hk, HT.out, rfl⟩))⟩
theorem topP_any (s : ByteArray) (w : World) (hE : LexEnv w) (hs : s.size ≤ 9223372036854775800) : Calls Tryz.prog 10 #[.string s] w (TopP s w) := by
 cases hsc : Lex.scan s.data.toList with
 | bad a er => exact topP_bad s w hE hs a er hsc
 | toks ts => exact topP_ok s w hE (by
  have h := hsc
  unfold Lex.scan at h
  split at h
  ·cases h
  ·rw [Lib.size_eq]; omega) ts hsc
set_option maxRecDepth 100000 in
set_option maxHeartbeats 8000000 in
theorem topE_bad (s : ByteArray) (w : World) (hE : LexEnv w) (hs : s.size ≤ 9223372036854775800) (a er : Nat) (hsc : Lex.scan s.data.toList = .bad a er) : Calls Tryz.prog 13 #[.string s] w (TopE s w) := by
 have hpos : 0 < er := scan_badpos hsc
 have hne : ((er : Int) == 0) = false := by rw [beq_eq_false_iff_ne]; omega
 have hb1 := below_box w (.cells #[.int .i64 0, .int .i64 0, .int .i64 0, .string ⟨#[]⟩, .bool false, .slice none 0 0] 33)
 have hR := new_at (w := w) (o := .cells #[.int .i64 0, .int .i64 0, .int .i64 0, .string ⟨#[]⟩, .bool false, .slice none 0 0] 33) rfl
 obtain ⟨w1, hw1⟩ : ∃ q, q = w.alloc (.cells #[.int .i64 0, .int .i64 0, .int .i64 0, .string ⟨#[]⟩, .bool false, .slice none 0 0] 33) := ⟨_, rfl⟩
 rw [← hw1] at hb1 hR
 have HW1 := Lib.hid hw1
 have HRB := Lib.hid hR
 have HB1 := Lib.hid hb1
 have HE := Lib.hid (hE.keep hb1)
 have HSC := Lib.hid hsc
 clear hb1 hR hw1 hE hsc
 have KR := Lib.hid (runE_bad s w1 HE.out hs a er HSC.out hpos)
 go_enter Tryz.func13, Tryz.ntmps13
 go_upto_region 1 with fail
 rw [← HW1.out]
 clear HW1
 go_wp2_with fail
 refine KR.out.mono ?_
 rintro e w2 ⟨rfl, hb2⟩
 have hnb := new_at (w := w2) (o := .cells #[.int .i64 0, .int .i64 0, .int .i64 0, .string ⟨#[]⟩, .bool false, .slice none 0 0] 33) rfl
 have hbx := below_box w2 (.cells #[.int .i64 0, .int .i64 0, .int .i64 0, .string ⟨#[]⟩, .bool false, .slice none 0 0] 33)
 obtain ⟨w3, hw3⟩ : ∃ q, q = w2.alloc (.cells #[.int .i64 0, .int .i64 0, .int .i64 0, .string ⟨#[]⟩, .bool false, .slice none 0 0] 33) := ⟨_, rfl⟩
 rw [← hw3] at hnb hbx
 have HXB := Lib.hid hnb
 have HRW := Lib.hid (gr_at (gr_below (below_next hb2 hbx) none) HRB.out (fun h => by cases h))
 have HG3 := Lib.hid (gr_below (below_next HB1.out (below_next hb2 hbx)) none)
 have HW3 := Lib.hid hw3
 clear hnb hbx hb2 hw3 KR
 go_upto_region 2 with fail
 rw [← HW3.out]
 clear HW3
 have xl := lt_of_block HXB.out
 have xc0 := cell_of_blkP HXB.out (j := 0) (u := .int .i64 0) rfl
 have xf0 := blk_free HXB.out 0
 have xc1 := cell_of_blkP HXB.out (j := 1) (u := .int .i64 0) rfl
 have xf1 := blk_free HXB.out 1
 have xc2 := cell_of_blkP HXB.out (j := 2) (u := .int .i64 0) rfl
 have xf2 := blk_free HXB.out 2
 have xc3 := cell_of_blkP HXB.out (j := 3) (u := .string ⟨#[]⟩) rfl
 have xf3 := blk_free HXB.out 3
 have xc4 := cell_of_blkP HXB.out (j := 4) (u := .bool false) rfl
 have xf4 := blk_free HXB.out 4
 have xc5 := cell_of_blkP HXB.out (j := 5) (u := .slice none 0 0) rfl
 have xf5 := blk_free HXB.out 5
 have rl := lt_of_block HRW.out
 have rc0 := cell_of_blkP HRW.out (j := 0) (u := .int .i64 0) rfl
 have rf0 := blk_free HRW.out 0
 have rc1 := cell_of_blkP HRW.out (j := 1) (u := .int .i64 0) rfl
 have rf1 := blk_free HRW.out 1
 have rc2 := cell_of_blkP HRW.out (j := 2) (u := .int .i64 0) rfl
 have rf2 := blk_free HRW.out 2
 have rc3 := cell_of_blkP HRW.out (j := 3) (u := .string ⟨#[]⟩) rfl
 have rf3 := blk_free HRW.out 3
 have rc4 := cell_of_blkP HRW.out (j := 4) (u := .bool false) rfl
 have rf4 := blk_free HRW.out 4
 have rc5 := cell_of_blkP HRW.out (j := 5) (u := .slice none 0 0) rfl
 have rf5 := blk_free HRW.out 5
 go_wp2_with fail
 have hS := set6_blk (.int .i64 0) (.int .i64 0) (.int .i64 0) (.string ⟨#[]⟩) (.bool false) (.slice none 0 0) HRW.out
 have hgs := set6_gr w3 w.heap.size (.int .i64 0) (.int .i64 0) (.int .i64 0) (.string ⟨#[]⟩) (.bool false) (.slice none 0 0)
 have zl := lt_of_block hS
 have zc0 := cell_of_blkP hS (j := 0) (u := .int .i64 0) rfl
 have zf0 := blk_free hS 0
 have zc1 := cell_of_blkP hS (j := 1) (u := .int .i64 0) rfl
 have zf1 := blk_free hS 1
 have zc2 := cell_of_blkP hS (j := 2) (u := .int .i64 0) rfl
 have zf2 := blk_free hS 2
 have zc3 := cell_of_blkP hS (j := 3) (u := .string ⟨#[]⟩) rfl
 have zf3 := blk_free hS 3
 have zc4 := cell_of_blkP hS (j := 4) (u := .bool false) rfl
 have zf4 := blk_free hS 4
 have zc5 := cell_of_blkP hS (j := 5) (u := .slice none 0 0) rfl
 have zf5 := blk_free hS 5
 refine bodyPost_ret (v := .tuple #[.agg #[.int .i64 0, .int .i64 0, .int .i64 0, .string ⟨#[]⟩, .bool false, .slice none 0 0], .int .i64 a, .int .i64 er]) (by simp [results, Tryz.results13, go_sem, *]) rfl ⟨gr_fresh (gr_new HG3.out hgs (Nat.le_refl _)), .inl ⟨a, er, HSC.out, rfl⟩⟩
set_option maxRecDepth 100000 in
set_option maxHeartbeats 8000000 in
theorem topE_ok (s : ByteArray) (w : World) (hE : LexEnv w) (hs : s.size ≤ 16384) (ts : List Lex.Tok) (hsc : Lex.scan s.data.toList = .toks ts) : Calls Tryz.prog 13 #[.string s] w (TopE s w) := by
 have hb1 := below_box w (.cells #[.int .i64 0, .int .i64 0, .int .i64 0, .string ⟨#[]⟩, .bool false, .slice none 0 0] 33)
 have hR := new_at (w := w) (o := .cells #[.int .i64 0, .int .i64 0, .int .i64 0, .string ⟨#[]⟩, .bool false, .slice none 0 0] 33) rfl
 obtain ⟨w1, hw1⟩ : ∃ q, q = w.alloc (.cells #[.int .i64 0, .int .i64 0, .int .i64 0, .string ⟨#[]⟩, .bool false, .slice none 0 0] 33) := ⟨_, rfl⟩
 rw [← hw1] at hb1 hR
 have HW1 := Lib.hid hw1
 have HRB := Lib.hid hR
 have HB1 := Lib.hid hb1
 have HE := Lib.hid (hE.keep hb1)
 have HSC := Lib.hid hsc
 clear hb1 hR hw1 hE hsc
 have KR := Lib.hid (runE_ok s w1 HE.out hs ts HSC.out)
 go_enter Tryz.func13, Tryz.ntmps13
 go_upto_region 1 with fail
 rw [← HW1.out]
 clear HW1
 go_wp2_with fail
 refine KR.out.mono ?_
 rintro e w2 ⟨hb2, ⟨e1, v, hev, rfl, ⟨a, rfl, hbd, hsl⟩⟩ | ⟨k, t, hev, hk, ht, rfl⟩⟩
 ·obtain ⟨pv, cv, rfl, _⟩ := hsl.form
  obtain ⟨NV, hNV⟩ : ∃ q, e1.args.length = q := ⟨_, rfl⟩
  rw [hNV] at hsl ⊢
  have HNV := Lib.hid hNV
  have hsz := (read_expr HSC.out (pX_ok hev)).2
  have HBD := Lib.hid hbd
  have HEV := Lib.hid hev
  clear hev hNV hbd
  unfold exprV
  have hnb := new_at (w := w2) (o := .cells #[.int .i64 e1.kind, .int .i64 e1.op, .int .i64 e1.int, .string e1.name, .bool e1.at_, .slice pv NV cv] 33) rfl
  have hbx := below_box w2 (.cells #[.int .i64 e1.kind, .int .i64 e1.op, .int .i64 e1.int, .string e1.name, .bool e1.at_, .slice pv NV cv] 33)
  obtain ⟨w3, hw3⟩ : ∃ q, q = w2.alloc (.cells #[.int .i64 e1.kind, .int .i64 e1.op, .int .i64 e1.int, .string e1.name, .bool e1.at_, .slice pv NV cv] 33) := ⟨_, rfl⟩
  rw [← hw3] at hnb hbx
  have HXB := Lib.hid hnb
  have HRW := Lib.hid (gr_at (gr_below (below_next hb2 hbx) none) HRB.out (fun h => by cases h))
  have HG3 := Lib.hid (gr_below (below_next HB1.out (below_next hb2 hbx)) none)
  have HW3 := Lib.hid hw3
  have HS3 := Lib.hid (hsl.inc (up_step (l' := []) (B' := w1.heap.size) (gr_below hbx none) (fun _ h => by cases h) (fun _ _ h => h)))
  clear hsl
  clear hnb hbx hb2 hw3 KR
  obtain ⟨ZZ, hZZ⟩ : ∃ q, Sy.sizeE e1 = q := ⟨_, rfl⟩
  have KC := count_any e1.deep e1 pv NV cv w3 (Nat.le_refl _) HNV.out (HS3.out.inc (hide_inc _ _)) (by omega)
  rw [hZZ] at KC hsz
  unfold exprV at KC
  have KC := Lib.hid KC
  have HZZ := Lib.hid hZZ
  clear hZZ
  go_upto_region 2 with fail
  rw [← HW3.out]
  clear HW3
  by_cases h4 : ZZ ≤ 4000
  ·have hz4 : (ZZ : Int) ≤ 4000 := by omega
   have xl := lt_of_block HXB.out
   have xc0 := cell_of_blkP HXB.out (j := 0) (u := .int .i64 e1.kind) rfl
   have xf0 := blk_free HXB.out 0
   have xc1 := cell_of_blkP HXB.out (j := 1) (u := .int .i64 e1.op) rfl
   have xf1 := blk_free HXB.out 1
   have xc2 := cell_of_blkP HXB.out (j := 2) (u := .int .i64 e1.int) rfl
   have xf2 := blk_free HXB.out 2
   have xc3 := cell_of_blkP HXB.out (j := 3) (u := .string e1.name) rfl
   have xf3 := blk_free HXB.out 3
   have xc4 := cell_of_blkP HXB.out (j := 4) (u := .bool e1.at_) rfl
   have xf4 := blk_free HXB.out 4
   have xc5 := cell_of_blkP HXB.out (j := 5) (u := .slice pv NV cv) rfl
   have xf5 := blk_free HXB.out 5
   go_wp2_with fail
   clear xc0 xf0 xc1 xf1 xc2 xf2 xc3 xf3 xc4 xf4 xc5 xf5 xl
   refine KC.out.mono ?_
   rintro e w4 ⟨rfl, hb4⟩
   have HXB4 := Lib.hid (gr_at (gr_below hb4 none) HXB.out (fun h => by cases h))
   have HRW4 := Lib.hid (gr_at (gr_below hb4 none) HRW.out (fun h => by cases h))
   have HG4 := Lib.hid (gr_none HG3.out (gr_below hb4 none))
   have HS4 := Lib.hid (HS3.out.inc (up_step (l' := []) (B' := w1.heap.size) (gr_below hb4 none) (fun _ h => by cases h) (fun _ _ h => h)))
   clear hb4 KC HRW
   have HRW := HRW4
   have xl := lt_of_block HXB4.out
   have xc0 := cell_of_blkP HXB4.out (j := 0) (u := .int .i64 e1.kind) rfl
   have xf0 := blk_free HXB4.out 0
   have xc1 := cell_of_blkP HXB4.out (j := 1) (u := .int .i64 e1.op) rfl
   have xf1 := blk_free HXB4.out 1
   have xc2 := cell_of_blkP HXB4.out (j := 2) (u := .int .i64 e1.int) rfl
   have xf2 := blk_free HXB4.out 2
   have xc3 := cell_of_blkP HXB4.out (j := 3) (u := .string e1.name) rfl
   have xf3 := blk_free HXB4.out 3
   have xc4 := cell_of_blkP HXB4.out (j := 4) (u := .bool e1.at_) rfl
   have xf4 := blk_free HXB4.out 4
   have xc5 := cell_of_blkP HXB4.out (j := 5) (u := .slice pv NV cv) rfl
   have xf5 := blk_free HXB4.out 5
   have rl := lt_of_block HRW.out
   have rc0 := cell_of_blkP HRW.out (j := 0) (u := .int .i64 0) rfl
   have rf0 := blk_free HRW.out 0
   have rc1 := cell_of_blkP HRW.out (j := 1) (u := .int .i64 0) rfl
   have rf1 := blk_free HRW.out 1
   have rc2 := cell_of_blkP HRW.out (j := 2) (u := .int .i64 0) rfl
   have rf2 := blk_free HRW.out 2
   have rc3 := cell_of_blkP HRW.out (j := 3) (u := .string ⟨#[]⟩) rfl
   have rf3 := blk_free HRW.out 3
   have rc4 := cell_of_blkP HRW.out (j := 4) (u := .bool false) rfl
   have rf4 := blk_free HRW.out 4
   have rc5 := cell_of_blkP HRW.out (j := 5) (u := .slice none 0 0) rfl
   have rf5 := blk_free HRW.out 5
   have hr1 : w.heap.size < w1.heap.size := lt_of_block HRB.out
   go_wp2_with fail
   have hS := set6_blk (.int .i64 e1.kind) (.int .i64 e1.op) (.int .i64 e1.int) (.string e1.name) (.bool e1.at_) (.slice pv NV cv) HRW.out
   have hgs := set6_gr w4 w.heap.size (.int .i64 e1.kind) (.int .i64 e1.op) (.int .i64 e1.int) (.string e1.name) (.bool e1.at_) (.slice pv NV cv)
   have zl := lt_of_block hS
   have zc0 := cell_of_blkP hS (j := 0) (u := .int .i64 e1.kind) rfl
   have zf0 := blk_free hS 0
   have zc1 := cell_of_blkP hS (j := 1) (u := .int .i64 e1.op) rfl
   have zf1 := blk_free hS 1
   have zc2 := cell_of_blkP hS (j := 2) (u := .int .i64 e1.int) rfl
   have zf2 := blk_free hS 2
   have zc3 := cell_of_blkP hS (j := 3) (u := .string e1.name) rfl
   have zf3 := blk_free hS 3
   have zc4 := cell_of_blkP hS (j := 4) (u := .bool e1.at_) rfl
   have zf4 := blk_free hS 4
   have zc5 := cell_of_blkP hS (j := 5) (u := .slice pv NV cv) rfl
   have zf5 := blk_free hS 5
   refine bodyPost_ret (v := .tuple #[exprV e1 (.slice pv NV cv), .int .i64 0, .int .i64 0]) (by simp [results, Tryz.results13, go_sem, exprV, *]) rfl ⟨gr_fresh (gr_new HG4.out hgs (Nat.le_refl _)), .inr (.inl ⟨ts, e1, _, HSC.out, HEV.out, by rw [HZZ.out]; exact h4, rfl, ⟨_, rfl, HBD.out, (HS4.out.inc (up_step (l' := []) (B' := w1.heap.size) hgs (fun q hq => .inl (by injection hq; omega)) (fun _ _ h => h))).inc (hide_inc _ _)⟩⟩)⟩
  ·have hz4 : (4000 : Int) < (ZZ : Int) := by omega
   have xl := lt_of_block HXB.out
   have xc0 := cell_of_blkP HXB.out (j := 0) (u := .int .i64 e1.kind) rfl
   have xf0 := blk_free HXB.out 0
   have xc1 := cell_of_blkP HXB.out (j := 1) (u := .int .i64 e1.op) rfl
   have xf1 := blk_free HXB.out 1
   have xc2 := cell_of_blkP HXB.out (j := 2) (u := .int .i64 e1.int) rfl
   have xf2 := blk_free HXB.out 2
   have xc3 := cell_of_blkP HXB.out (j := 3) (u := .string e1.name) rfl
   have xf3 := blk_free HXB.out 3
   have xc4 := cell_of_blkP HXB.out (j := 4) (u := .bool e1.at_) rfl
   have xf4 := blk_free HXB.out 4
   have xc5 := cell_of_blkP HXB.out (j := 5) (u := .slice pv NV cv) rfl
   have xf5 := blk_free HXB.out 5
   go_wp2_with fail
   clear xc0 xf0 xc1 xf1 xc2 xf2 xc3 xf3 xc4 xf4 xc5 xf5 xl
   refine KC.out.mono ?_
   rintro e w4 ⟨rfl, hb4⟩
   have HXB4 := Lib.hid (gr_at (gr_below hb4 none) HXB.out (fun h => by cases h))
   have HRW4 := Lib.hid (gr_at (gr_below hb4 none) HRW.out (fun h => by cases h))
   have HG4 := Lib.hid (gr_none HG3.out (gr_below hb4 none))
   have HS4 := Lib.hid (HS3.out.inc (up_step (l' := []) (B' := w1.heap.size) (gr_below hb4 none) (fun _ h => by cases h) (fun _ _ h => h)))
   clear hb4 KC HRW
   have HRW := HRW4
   have xl := lt_of_block HXB4.out
   have xc0 := cell_of_blkP HXB4.out (j := 0) (u := .int .i64 e1.kind) rfl
   have xf0 := blk_free HXB4.out 0
   have xc1 := cell_of_blkP HXB4.out (j := 1) (u := .int .i64 e1.op) rfl
   have xf1 := blk_free HXB4.out 1
   have xc2 := cell_of_blkP HXB4.out (j := 2) (u := .int .i64 e1.int) rfl
   have xf2 := blk_free HXB4.out 2
   have xc3 := cell_of_blkP HXB4.out (j := 3) (u := .string e1.name) rfl
   have xf3 := blk_free HXB4.out 3
   have xc4 := cell_of_blkP HXB4.out (j := 4) (u := .bool e1.at_) rfl
   have xf4 := blk_free HXB4.out 4
   have xc5 := cell_of_blkP HXB4.out (j := 5) (u := .slice pv NV cv) rfl
   have xf5 := blk_free HXB4.out 5
   have rl := lt_of_block HRW.out
   have rc0 := cell_of_blkP HRW.out (j := 0) (u := .int .i64 0) rfl
   have rf0 := blk_free HRW.out 0
   have rc1 := cell_of_blkP HRW.out (j := 1) (u := .int .i64 0) rfl
   have rf1 := blk_free HRW.out 1
   have rc2 := cell_of_blkP HRW.out (j := 2) (u := .int .i64 0) rfl
   have rf2 := blk_free HRW.out 2
   have rc3 := cell_of_blkP HRW.out (j := 3) (u := .string ⟨#[]⟩) rfl
   have rf3 := blk_free HRW.out 3
   have rc4 := cell_of_blkP HRW.out (j := 4) (u := .bool false) rfl
   have rf4 := blk_free HRW.out 4
   have rc5 := cell_of_blkP HRW.out (j := 5) (u := .slice none 0 0) rfl
   have rf5 := blk_free HRW.out 5
   have hr1 : w.heap.size < w1.heap.size := lt_of_block HRB.out
   go_wp2_with fail
   have hS := set6_blk (.int .i64 0) (.int .i64 0) (.int .i64 0) (.string ⟨#[]⟩) (.bool false) (.slice none 0 0) HRW.out
   have hgs := set6_gr w4 w.heap.size (.int .i64 0) (.int .i64 0) (.int .i64 0) (.string ⟨#[]⟩) (.bool false) (.slice none 0 0)
   have zl := lt_of_block hS
   have zc0 := cell_of_blkP hS (j := 0) (u := .int .i64 0) rfl
   have zf0 := blk_free hS 0
   have zc1 := cell_of_blkP hS (j := 1) (u := .int .i64 0) rfl
   have zf1 := blk_free hS 1
   have zc2 := cell_of_blkP hS (j := 2) (u := .int .i64 0) rfl
   have zf2 := blk_free hS 2
   have zc3 := cell_of_blkP hS (j := 3) (u := .string ⟨#[]⟩) rfl
   have zf3 := blk_free hS 3
   have zc4 := cell_of_blkP hS (j := 4) (u := .bool false) rfl
   have zf4 := blk_free hS 4
   have zc5 := cell_of_blkP hS (j := 5) (u := .slice none 0 0) rfl
   have zf5 := blk_free hS 5
   refine bodyPost_ret (v := .tuple #[.agg #[.int .i64 0, .int .i64 0, .int .i64 0, .string ⟨#[]⟩, .bool false, .slice none 0 0], .int .i64 0, .int .i64 8]) (by simp [results, Tryz.results13, go_sem, *]) rfl ⟨gr_fresh (gr_new HG4.out hgs (Nat.le_refl _)), .inr (.inr (.inl ⟨ts, e1, HSC.out, HEV.out, by rw [HZZ.out]; omega, rfl⟩))⟩
 ·have HEV := Lib.hid hev
  have HT := Lib.hid ht
  clear hev ht
  have hnb := new_at (w := w2) (o := .cells #[.int .i64 0, .int .i64 0, .int .i64 0, .string ⟨#[]⟩, .bool false, .slice none 0 0] 33) rfl
  have hbx := below_box w2 (.cells #[.int .i64 0, .int .i64 0, .int .i64 0, .string ⟨#[]⟩, .bool false, .slice none 0 0] 33)
  obtain ⟨w3, hw3⟩ : ∃ q, q = w2.alloc (.cells #[.int .i64 0, .int .i64 0, .int .i64 0, .string ⟨#[]⟩, .bool false, .slice none 0 0] 33) := ⟨_, rfl⟩
  rw [← hw3] at hnb hbx
  have HXB := Lib.hid hnb
  have HRW := Lib.hid (gr_at (gr_below (below_next hb2 hbx) none) HRB.out (fun h => by cases h))
  have HG3 := Lib.hid (gr_below (below_next HB1.out (below_next hb2 hbx)) none)
  have HW3 := Lib.hid hw3
  clear hnb hbx hb2 hw3 KR
  go_upto_region 2 with fail
  rw [← HW3.out]
  clear HW3
  have xl := lt_of_block HXB.out
  have xc0 := cell_of_blkP HXB.out (j := 0) (u := .int .i64 0) rfl
  have xf0 := blk_free HXB.out 0
  have xc1 := cell_of_blkP HXB.out (j := 1) (u := .int .i64 0) rfl
  have xf1 := blk_free HXB.out 1
  have xc2 := cell_of_blkP HXB.out (j := 2) (u := .int .i64 0) rfl
  have xf2 := blk_free HXB.out 2
  have xc3 := cell_of_blkP HXB.out (j := 3) (u := .string ⟨#[]⟩) rfl
  have xf3 := blk_free HXB.out 3
  have xc4 := cell_of_blkP HXB.out (j := 4) (u := .bool false) rfl
  have xf4 := blk_free HXB.out 4
  have xc5 := cell_of_blkP HXB.out (j := 5) (u := .slice none 0 0) rfl
  have xf5 := blk_free HXB.out 5
  have rl := lt_of_block HRW.out
  have rc0 := cell_of_blkP HRW.out (j := 0) (u := .int .i64 0) rfl
  have rf0 := blk_free HRW.out 0
  have rc1 := cell_of_blkP HRW.out (j := 1) (u := .int .i64 0) rfl
  have rf1 := blk_free HRW.out 1
  have rc2 := cell_of_blkP HRW.out (j := 2) (u := .int .i64 0) rfl
  have rf2 := blk_free HRW.out 2
  have rc3 := cell_of_blkP HRW.out (j := 3) (u := .string ⟨#[]⟩) rfl
  have rf3 := blk_free HRW.out 3
  have rc4 := cell_of_blkP HRW.out (j := 4) (u := .bool false) rfl
  have rf4 := blk_free HRW.out 4
  have rc5 := cell_of_blkP HRW.out (j := 5) (u := .slice none 0 0) rfl
  have rf5 := blk_free HRW.out 5
  go_wp2_with fail
  have hS := set6_blk (.int .i64 0) (.int .i64 0) (.int .i64 0) (.string ⟨#[]⟩) (.bool false) (.slice none 0 0) HRW.out
  have hgs := set6_gr w3 w.heap.size (.int .i64 0) (.int .i64 0) (.int .i64 0) (.string ⟨#[]⟩) (.bool false) (.slice none 0 0)
  have zl := lt_of_block hS
  have zc0 := cell_of_blkP hS (j := 0) (u := .int .i64 0) rfl
  have zf0 := blk_free hS 0
  have zc1 := cell_of_blkP hS (j := 1) (u := .int .i64 0) rfl
  have zf1 := blk_free hS 1
  have zc2 := cell_of_blkP hS (j := 2) (u := .int .i64 0) rfl
  have zf2 := blk_free hS 2
  have zc3 := cell_of_blkP hS (j := 3) (u := .string ⟨#[]⟩) rfl
  have zf3 := blk_free hS 3
  have zc4 := cell_of_blkP hS (j := 4) (u := .bool false) rfl
  have zf4 := blk_free hS 4
  have zc5 := cell_of_blkP hS (j := 5) (u := .slice none 0 0) rfl
  have zf5 := blk_free hS 5
  refine bodyPost_ret (v := .tuple #[.agg #[.int .i64 0, .int .i64 0, .int .i64 0, .string ⟨#[]⟩, .bool false, .slice none 0 0], .int .i64 t.pos, .int .i64 3]) (by simp [results, Tryz.results13, go_sem, *]) rfl ⟨gr_fresh (gr_new HG3.out hgs (Nat.le_refl _)), .inr (.inr (.inr ⟨ts, k, t, HSC.out, HEV.out, hk, HT.out, rfl⟩))⟩
theorem topE_any (s : ByteArray) (w : World) (hE : LexEnv w) (hs : s.size ≤ 9223372036854775800) : Calls Tryz.prog 13 #[.string s] w (TopE s w) := by
 cases hsc : Lex.scan s.data.toList with
 | bad a er => exact topE_bad s w hE hs a er hsc
 | toks ts => exact topE_ok s w hE (by
  have h := hsc
  unfold Lex.scan at h
  split at h
  ·cases h
  ·rw [Lib.size_eq]; omega) ts hsc
end Go.Proofs.YtdckddkalgnlpaaGreatDoor
namespace Go.Proofs.YtdckddkalgnlpaaGreatDoor
open Go.RowKit Go.Maps Pw
def awA : List UInt8 := [97, 32, 45, 32, 98, 32, 45, 32, 49]
def awB : List UInt8 := [97, 32, 60, 32, 98, 32, 60, 32, 99]
def awC : List UInt8 := [114, 101, 99, 111, 114, 100, 32, 67, 32, 123, 32, 118, 97, 114, 32, 120, 59, 32, 125]
def awTA : List Lex.Tok := [⟨2, [97], 0, 0⟩, ⟨5, [45], 0, 2⟩, ⟨2, [98], 0, 4⟩, ⟨5, [45], 0, 6⟩, ⟨1, [49], 1, 8⟩, ⟨0, [], 0, 9⟩]
def awTB : List Lex.Tok := [⟨2, [97], 0, 0⟩, ⟨5, [60], 0, 2⟩, ⟨2, [98], 0, 4⟩, ⟨5, [60], 0, 6⟩, ⟨2, [99], 0, 8⟩, ⟨0, [], 0, 9⟩]
def awTC : List Lex.Tok := [⟨4, [114, 101, 99, 111, 114, 100], 0, 0⟩, ⟨3, [67], 0, 7⟩, ⟨5, [123], 0, 9⟩, ⟨4, [118, 97, 114], 0, 11⟩, ⟨2, [120], 0, 15⟩, ⟨5, [59], 0, 16⟩, ⟨5, [125], 0, 18⟩, ⟨0, [], 0, 19⟩]
theorem awA_scan : Lex.scan awA = .toks awTA := by decide +kernel
theorem awB_scan : Lex.scan awB = .toks awTB := by decide +kernel
theorem awC_scan : Lex.scan awC = .toks awTC := by decide +kernel
def awE : Tr.E := Pa.bin 1 (Pa.bin 1 (Pa.var ⟨#[97]⟩) (Pa.var ⟨#[98]⟩)) (Pa.num 1)
def awP : List Tr.C := [⟨⟨#[67]⟩, false, [⟨#[120]⟩], []⟩]
theorem awA_parse (f : Nat) : Pa.pX (f + 30) (Pa.rest awTA 5 0) = .ok awE [] := by kernel_rfl
theorem awB_parse (f : Nat) : Pa.pX (f + 30) (Pa.rest awTB 5 0) = .bad (Pa.rest awTB 5 3) := by kernel_rfl
theorem awC_parse (f : Nat) : Pa.pP (f + 30) [] (Pa.rest awTC 7 0) = .ok awP [] := by kernel_rfl
theorem Pa.Ev.at {α : Type} {p : Nat → Pa.R α} {x : Pa.R α} (N : Nat) (h : ∀ f, p (f + N) = x) : Pa.Ev p x := ⟨N, fun f hf => by
 obtain ⟨g, rfl⟩ : ∃ g, f = g + N := ⟨f - N, by omega⟩
 exact h g⟩
theorem topE_awA {w w' : World} {e : Ending} (h : TopE ⟨awA.toArray⟩ w e w') : Below w.heap.size w w' ∧ ∃ v, e = .returned (.tuple #[v, .int .i64 0, .int .i64 0]) ∧ rdE w' v awE := by
 have hs : Lex.scan (⟨awA.toArray⟩ : ByteArray).data.toList = .toks awTA := awA_scan
 have hev : Pa.Ev (fun f => Pa.pX f (Pa.rest awTA (awTA.length - 1) 0)) (.ok awE []) := .at 30 awA_parse
 obtain ⟨hb, ⟨a, er, h1, _⟩ | ⟨ts, x, v, h1, h2, _, h4, h5⟩ | ⟨ts, x, h1, h2, h3, _⟩ | ⟨ts, k, t, h1, h2, _⟩⟩ := h
 ·rw [hs] at h1; cases h1
 ·rw [hs] at h1; cases h1
  have := hev.det h2
  cases this
  exact ⟨hb, v, h4, h5⟩
 ·rw [hs] at h1; cases h1
  have := hev.det h2
  cases this
  exact absurd h3 (by decide)
 ·rw [hs] at h1; cases h1
  have := hev.det h2
  cases this
theorem topE_awB {w w' : World} {e : Ending} (h : TopE ⟨awB.toArray⟩ w e w') : Below w.heap.size w w' ∧ e = .returned (.tuple #[.agg #[.int .i64 0, .int .i64 0, .int .i64 0, .string ⟨#[]⟩, .bool false, .slice none 0 0], .int .i64 6, .int .i64 3]) := by
 have hs : Lex.scan (⟨awB.toArray⟩ : ByteArray).data.toList = .toks awTB := awB_scan
 have hev : Pa.Ev (fun f => Pa.pX f (Pa.rest awTB (awTB.length - 1) 0)) (.bad (Pa.rest awTB 5 3)) := .at 30 awB_parse
 obtain ⟨hb, ⟨a, er, h1, _⟩ | ⟨ts, x, v, h1, h2, _, h4, h5⟩ | ⟨ts, x, h1, h2, h3, _⟩ | ⟨ts, k, t, h1, h2, hk, ht, h4⟩⟩ := h
 ·rw [hs] at h1; cases h1
 ·rw [hs] at h1; cases h1
  have := hev.det h2
  cases this
 ·rw [hs] at h1; cases h1
  have := hev.det h2
  cases this
 ·rw [hs] at h1; cases h1
  have h6 := hev.det h2
  injection h6 with h6
  have hT := (scan_tkl awB_scan).1
  have h7 := Pa.rest_inj hT (j := 3) (k := k) (by decide) hk h6
  subst h7
  cases ht
  exact ⟨hb, h4⟩
theorem topP_awC {w w' : World} {e : Ending} (h : TopP ⟨awC.toArray⟩ w e w') : Below w.heap.size w w' ∧ ∃ v, e = .returned (.tuple #[.agg #[v], .int .i64 0, .int .i64 0]) ∧ SlC w' v awP := by
 have hs : Lex.scan (⟨awC.toArray⟩ : ByteArray).data.toList = .toks awTC := awC_scan
 have hev : Pa.Ev (fun f => Pa.pP f [] (Pa.rest awTC (awTC.length - 1) 0)) (.ok awP []) := .at 30 awC_parse
 obtain ⟨hb, ⟨a, er, h1, _⟩ | ⟨ts, x, v, h1, h2, _, h4, h5⟩ | ⟨ts, x, h1, h2, h3, _⟩ | ⟨ts, k, t, h1, h2, _⟩⟩ := h
 ·rw [hs] at h1; cases h1
 ·rw [hs] at h1; cases h1
  have := hev.det h2
  cases this
  exact ⟨hb, v, h4, h5⟩
 ·rw [hs] at h1; cases h1
  have := hev.det h2
  cases this
  exact absurd h3 (by decide)
 ·rw [hs] at h1; cases h1
  have := hev.det h2
  cases this
set_option maxRecDepth 100000 in
set_option maxHeartbeats 4000000 in
theorem awake39_any (w : World) (hE : LexEnv w) : Calls Tryz.prog 9 #[] w fun e w' => e = .returned (.bool true) ∧ Below w.heap.size w w' := by
 have HE := Lib.hid hE
 clear hE
 have KA := Lib.hid (topE_any ⟨awA.toArray⟩ w HE.out (by decide))
 go_enter Tryz.func9, Tryz.ntmps9
 go_wp2_with fail
 refine KA.out.mono ?_
 intro e w1 hp1
 obtain ⟨hb1, v, rfl, a, rfl, hbd, hsl⟩ := topE_awA hp1
 obtain ⟨p1, c1, rfl, _⟩ := hsl.form
 have hln : awE.args.length = 2 := rfl
 rw [hln] at hsl ⊢
 obtain ⟨b0, o0, a0, he0, _, hc0, _, _⟩ := hsl.get (j := 0) (e := Pa.bin 1 (Pa.var ⟨#[97]⟩) (Pa.var ⟨#[98]⟩)) rfl
 cases he0
 obtain ⟨b1', o1', a1', he1, _, hc1, _, _⟩ := hsl.get (j := 1) (e := Pa.num 1) rfl
 cases he1
 have hval : exprV awE (.slice (some ⟨b0, o0, none⟩) 2 c1) = .agg #[.int .i64 10, .int .i64 1, .int .i64 0, .string ⟨#[]⟩, .bool false, .slice (some ⟨b0, o0, none⟩) 2 c1] := rfl
 rw [hval]
 have k0 : w1.cell? ⟨b0, o0, none⟩ = some (.int .i64 10) := hc0.1
 have k1 : w1.cell? ⟨b0, o0 + 6 + 2, none⟩ = some (.int .i64 1) := by
  have := hc1.2.2.1
  rw [Nat.one_mul] at this
  exact this
 have hbx := below_box w1 (.cells #[.int .i64 10, .int .i64 1, .int .i64 0, .string ⟨#[]⟩, .bool false, .slice (some ⟨b0, o0, none⟩) 2 c1] 33)
 have hx := new_at (w := w1) (o := .cells #[.int .i64 10, .int .i64 1, .int .i64 0, .string ⟨#[]⟩, .bool false, .slice (some ⟨b0, o0, none⟩) 2 c1] 33) rfl
 obtain ⟨X1, hX1⟩ : ∃ q, q = w1.heap.size := ⟨_, rfl⟩
 obtain ⟨w2, hw2⟩ : ∃ q, q = w1.alloc (.cells #[.int .i64 10, .int .i64 1, .int .i64 0, .string ⟨#[]⟩, .bool false, .slice (some ⟨b0, o0, none⟩) 2 c1] 33) := ⟨_, rfl⟩
 rw [← hw2, ← hX1] at hx
 rw [← hw2] at hbx
 have HX1 := Lib.hid hx
 have HK0 := Lib.hid (cell_keep' hbx k0)
 have HK1 := Lib.hid (cell_keep' hbx k1)
 have HB2 := Lib.hid (below_next hb1 hbx)
 have HE2 := Lib.hid (HE.out.keep (below_next hb1 hbx))
 have HW2 := Lib.hid hw2
 have HN1 := Lib.hid hX1
 clear hx hbx hX1 hw2 k0 k1 hc0 hc1 hsl hbd hb1 hp1 hval hln KA
 have KB := Lib.hid (topE_any ⟨awB.toArray⟩ w2 HE2.out (by decide))
 go_wp2_with fail
 rw [← HN1.out, ← HW2.out]
 refine KB.out.mono ?_
 intro e w3 hp3
 obtain ⟨hb3, rfl⟩ := topE_awB hp3
 have hbx := below_box w3 (.cells #[.int .i64 0, .int .i64 0, .int .i64 0, .string ⟨#[]⟩, .bool false, .slice none 0 0] 33)
 obtain ⟨w4, hw4⟩ : ∃ q, q = w3.alloc (.cells #[.int .i64 0, .int .i64 0, .int .i64 0, .string ⟨#[]⟩, .bool false, .slice none 0 0] 33) := ⟨_, rfl⟩
 rw [← hw4] at hbx
 have HB24 := Lib.hid (below_next hb3 hbx)
 have HW4 := Lib.hid hw4
 have HE4 := Lib.hid (HE2.out.keep HB24.out)
 clear hb3 hbx hw4 hp3 KB HW2 HN1
 have KC := Lib.hid (topP_any ⟨awC.toArray⟩ w4 HE4.out (by decide))
 go_wp2_with fail
 rw [← HW4.out]
 refine KC.out.mono ?_
 intro e w5 hp5
 obtain ⟨hb5, v, rfl, hsl⟩ := topP_awC hp5
 obtain ⟨p3, c3, rfl⟩ := hsl.form
 have hln : awP.length = 1 := rfl
 rw [hln] at hsl ⊢
 obtain ⟨b3, o3, x3, y3, he3, _, hc3, _, hfl, hml⟩ := hsl.get (j := 0) (m := ⟨⟨#[67]⟩, false, [⟨#[120]⟩], []⟩) rfl
 cases he3
 obtain ⟨pf, cf, rfl⟩ := hfl.form
 have hB25 := below_next HB24.out hb5
 have k2 : w5.cell? ⟨b3, o3 + 2, none⟩ = some (.slice pf 1 cf) := hc3.2.2.1
 have k0 := cell_keep' hB25 HK0.out
 have k1 := cell_keep' hB25 HK1.out
 have hx1 := gr_at (gr_below hB25 none) HX1.out (fun h => by cases h)
 have hbx := below_box w5 (.cells #[.slice (some ⟨b3, o3, none⟩) 1 c3] 25)
 have hx3 := new_at (w := w5) (o := .cells #[.slice (some ⟨b3, o3, none⟩) 1 c3] 25) rfl
 obtain ⟨X3, hX3⟩ : ∃ q, q = w5.heap.size := ⟨_, rfl⟩
 obtain ⟨w6, hw6⟩ : ∃ q, q = w5.alloc (.cells #[.slice (some ⟨b3, o3, none⟩) 1 c3] 25) := ⟨_, rfl⟩
 rw [← hw6, ← hX3] at hx3
 rw [← hw6] at hbx
 have h0 := cell_keep' hbx k0
 have h1 := cell_keep' hbx k1
 have h2 := cell_keep' hbx k2
 have x1 := gr_at (gr_below hbx none) hx1 (fun h => by cases h)
 have c15 := cell_of_blkP x1 (j := 5) (u := .slice (some ⟨b0, o0, none⟩) 2 c1) rfl
 have c30 := cell_of_blkP hx3 (j := 0) (u := .slice (some ⟨b3, o3, none⟩) 1 c3) rfl
 have h1b : w6.cell? ⟨b0, o0 + 8, none⟩ = some (.int .i64 1) := h1
 have HB6 := Lib.hid (below_next HB2.out (below_next hB25 hbx))
 have HW6 := Lib.hid hw6
 have HN3 := Lib.hid hX3
 clear hx1 hbx hx3 hX3 hw6 k0 k1 k2 hc3 hfl hml hsl hB25 hb5 hp5 KC HW4 HK0 HK1 HX1 x1 hln
 go_upto_region 4 with fail
 rw [← HN3.out, ← HW6.out]
 go_wp2_with fail
 go_ret
 exact ⟨rfl, HB6.out⟩
end Go.Proofs.YtdckddkalgnlpaaGreatDoor
namespace Go.Proofs.YtdckddkalgnlpaaGreatDoor
namespace Pa
open Tr
def R.put (l : List C) : R (List C) → R (List C)
 | .ok a r => .ok (l ++ a) r
 | .bad r => .bad r
def PO (s : Bytes) (x : List C) (o er : Nat) : Prop :=
 (Lex.scan s = .bad o er ∧ x = []) ∨
 (∃ ts, Lex.scan s = .toks ts ∧ Ev (fun f => pP f [] (rest ts (ts.length - 1) 0)) (.ok x []) ∧ Sy.sizeP x ≤ 4000 ∧ o = 0 ∧ er = 0) ∨
 (∃ ts y, Lex.scan s = .toks ts ∧ Ev (fun f => pP f [] (rest ts (ts.length - 1) 0)) (.ok y []) ∧ 4000 < Sy.sizeP y ∧ x = [] ∧ o = 0 ∧ er = 8) ∨
 (∃ ts k t, Lex.scan s = .toks ts ∧ Ev (fun f => pP f [] (rest ts (ts.length - 1) 0)) (.bad (rest ts (ts.length - 1) k)) ∧ k ≤ ts.length - 1 ∧ ts[k]? = some t ∧ x = [] ∧ o = t.pos ∧ er = 3)
theorem PO.short {s : Bytes} {x : List C} {o er : Nat} (h : PO s x o er) {ts : List Lex.Tok} (hs : Lex.scan s = .toks ts) (hl : s.length ≤ 2000) :
 (Ev (fun f => pP f [] (rest ts (ts.length - 1) 0)) (.ok x []) ∧ o = 0 ∧ er = 0) ∨ (∃ k t, Ev (fun f => pP f [] (rest ts (ts.length - 1) 0)) (.bad (rest ts (ts.length - 1) k)) ∧ k ≤ ts.length - 1 ∧ ts[k]? = some t ∧ x = [] ∧ o = t.pos ∧ er = 3) := by
 rcases h with ⟨h, _⟩ | ⟨ts', h, h1, _, h2⟩ | ⟨ts', y, h, h1, h2, _⟩ | ⟨ts', k, t, h, h1, h2⟩
 ·rw [hs] at h; cases h
 ·rw [hs] at h; cases h; exact .inl ⟨h1, h2⟩
 ·rw [hs] at h; cases h
  have := read_prog_len hs h1
  omega
 ·rw [hs] at h; cases h; exact .inr ⟨k, t, h1, h2⟩
theorem PO.off {s : Bytes} {x : List C} {o er : Nat} (h : PO s x o er) {ts : List Lex.Tok} (hs : Lex.scan s = .toks ts) : o ≤ 1000000 := by
 rcases h with ⟨h, _⟩ | ⟨_, _, _, _, rfl, _⟩ | ⟨_, _, _, _, _, _, rfl, _⟩ | ⟨ts', k, t, h, _, _, ht, _, rfl, _⟩
 ·rw [hs] at h; cases h
 ·exact Nat.zero_le _
 ·exact Nat.zero_le _
 ·exact ((scan_tkl h).1.pos t (List.mem_of_getElem? ht)).1
theorem PO.len {s : Bytes} {x : List C} {o er : Nat} (h : PO s x o er) (hl : s.length ≤ 2000) : x.length ≤ 2000 := by
 have key : ∀ l : List C, l.length ≤ Sy.sizeP l := by
  intro l
  induction l with
  | nil => exact Nat.zero_le _
  | cons c l ih =>
    unfold Sy.sizeP Sy.sizeC at *
    rw [List.map_cons, List.sum_cons, List.length_cons]
    omega
 rcases h with ⟨_, h⟩ | ⟨ts', h, h1, _⟩ | ⟨_, _, _, _, _, h, _⟩ | ⟨_, _, _, _, _, _, _, h, _⟩
 ·rw [h]; exact Nat.zero_le _
 ·have := read_prog_len h h1
  have := key x
  omega
 all_goals rw [h]; exact Nat.zero_le _
theorem PO.lex {s : Bytes} {x : List C} {o er p e : Nat} (h : PO s x o er) (hs : Lex.scan s = .bad p e) : o = p ∧ er = e ∧ x = [] := by
 rcases h with ⟨h, h2⟩ | ⟨ts', h, _⟩ | ⟨ts', y, h, _⟩ | ⟨ts', k, t, h, _⟩
 ·rw [hs] at h; cases h; exact ⟨rfl, rfl, h2⟩
 all_goals rw [hs] at h; cases h
end Pa
end Go.Proofs.YtdckddkalgnlpaaGreatDoor
namespace Go.Proofs.YtdckddkalgnlpaaGreatDoor
open Go.RowKit Go.Maps
def EqEC (d : Nat) : Prop := ∀ (x y : Tr.E) (v1 v2 : Value) (W : World), x.deep ≤ d → SlE W v1 x.args → SlE W v2 y.args →
 Calls Tryz.prog 19 #[exprV x v1, exprV y v2] W fun r w' => r = .returned (.bool (Sy.sameE x y)) ∧ Below W.heap.size W w'
theorem take_grow {α : Type} {l1 l2 : List α} {j : Nat} {x : α} (h : l1.take j = l2.take j) (h1 : l1[j]? = some x) (h2 : l2[j]? = some x) : l1.take (j + 1) = l2.take (j + 1) := by
 rw [List.take_add_one, List.take_add_one, h, h1, h2]
set_option maxRecDepth 100000 in
set_option maxHeartbeats 4000000 in
theorem eqFuncE_of {d : Nat} (hC : EqEC d) (l1 l2 : List Tr.E) (p1 : Option Addr) (N1 c1 : Nat) (p2 : Option Addr) (N2 c2 : Nat) (w : World) (hd : Tr.E.deep.deeps l1 ≤ d) (hN1 : l1.length = N1) (hN2 : l2.length = N2) (h1 : SlE w (.slice p1 N1 c1) l1) (h2 : SlE w (.slice p2 N2 c2) l2) :
 Calls Tryz.prog 43 #[.slice p1 N1 c1, .slice p2 N2 c2, .func (.func 19) #[] #[]] w fun r w' => r = .returned (.bool (Sy.sameEs l1 l2)) ∧ Below w.heap.size w w' := by
 have hn1 : N1 ≤ 9223372036854775807 := by
  have := h1.len
  rw [hN1] at this
  unfold maxLen at this
  exact this
 have hn2 : N2 ≤ 9223372036854775807 := by
  have := h2.len
  rw [hN2] at this
  unfold maxLen at this
  exact this
 have HC := Lib.hid hC
 have HD := Lib.hid hd
 have HN1 := Lib.hid hN1
 have HN2 := Lib.hid hN2
 have H1 := Lib.hid h1
 have H2 := Lib.hid h2
 clear hC hd hN1 hN2 h1 h2
 by_cases hne : N1 = N2
 ·subst hne
  go_enter Tryz.func43, Tryz.ntmps43
  go_wp2_with fail
  go_loopg [7, 8, 9, 17] N1 (fun g s7 s8 s9 s17 wr => ∃ j : Nat, s17 = .int .i64 j ∧ j ≤ N1 ∧ g = N1 - j ∧ Hid (l1.take j = l2.take j) ∧ Hid (Below w.heap.size w wr))
  case atStart => exact ⟨0, rfl, Nat.zero_le _, rfl, rfl, Below.refl _ _⟩
  case round =>
   obtain ⟨j, rfl, hj, rfl, HT, HB⟩ := hrel
   by_cases hlt : j < N1
   ·obtain ⟨x, hx⟩ : ∃ x, l1[j]? = some x := ⟨_, List.getElem?_eq_getElem (by rw [HN1.out]; exact hlt)⟩
    obtain ⟨y, hy⟩ : ∃ x, l2[j]? = some x := ⟨_, List.getElem?_eq_getElem (by rw [HN2.out]; exact hlt)⟩
    obtain ⟨b1, o1, a1, rfl, _, hc1, _, hsl1⟩ := H1.out.get hx
    obtain ⟨b2, o2, a2, rfl, _, hc2, _, hsl2⟩ := H2.out.get hy
    obtain ⟨q1, k1, rfl, _⟩ := hsl1.form
    obtain ⟨q2, k2, rfl, _⟩ := hsl2.form
    obtain ⟨A1, hA1⟩ : ∃ q, x.args.length = q := ⟨_, rfl⟩
    obtain ⟨A2, hA2⟩ : ∃ q, y.args.length = q := ⟨_, rfl⟩
    rw [hA1] at hsl1 hc1
    rw [hA2] at hsl2 hc2
    clear hA1 hA2
    obtain ⟨x0, x1, x2, x3, x4, x5⟩ := hc1.keep HB.out
    obtain ⟨y0, y1, y2, y3, y4, y5⟩ := hc2.keep HB.out
    have hb4 := HB.out.alloc HB.out.size (.cells #[.int .i64 x.kind, .int .i64 x.op, .int .i64 x.int, .string x.name, .bool x.at_, .slice q1 A1 k1] 33)
    have hb5 := hb4.alloc hb4.size (.cells #[.int .i64 y.kind, .int .i64 y.op, .int .i64 y.int, .string y.name, .bool y.at_, .slice q2 A2 k2] 33)
    obtain ⟨w5, hw5⟩ : ∃ q, q = (wr.alloc (.cells #[.int .i64 x.kind, .int .i64 x.op, .int .i64 x.int, .string x.name, .bool x.at_, .slice q1 A1 k1] 33)).alloc (.cells #[.int .i64 y.kind, .int .i64 y.op, .int .i64 y.int, .string y.name, .bool y.at_, .slice q2 A2 k2] 33) := ⟨_, rfl⟩
    rw [← hw5] at hb5
    have hcall := HC.out x y _ _ w5 (Nat.le_trans (Tr.E.deeps_get l1 j x hx) HD.out) (hsl1.keep hb5) (hsl2.keep hb5)
    unfold exprV at hcall
    have HW5 := Lib.hid hw5
    have HB5 := Lib.hid hb5
    have HX := Lib.hid hx
    have HY := Lib.hid hy
    have b3 : (j : Int) < (N1 : Int) := by omega
    have hl1 := cell_lt' x0
    have hl2 := cell_lt' y0
    obtain ⟨S, hSx⟩ : ∃ q, Sy.sameE x y = q := ⟨_, rfl⟩
    rw [hSx] at hcall
    have HSX := Lib.hid hSx
    have HCALL := Lib.hid hcall
    clear hx hy hc1 hc2 hsl1 hsl2 hb4 hb5 hw5 hcall hSx
    cases S
    ·go_wp2_with fail
     rw [← HW5.out]
     refine HCALL.out.mono ?_
     rintro e' w6 ⟨rfl, hb6⟩
     have HB6 := Lib.hid (HB5.out.trans (hb6.mono HB5.out.size))
     clear hb6 HW5 x0 x1 x2 x3 x4 x5 y0 y1 y2 y3 y4 y5 hl1 hl2
     go_wp2_with fail
     go_ret
     refine ⟨?_, HB6.out⟩
     rw [show Sy.sameEs l1 l2 = false by
      rw [Bool.eq_false_iff]
      intro h
      rw [Sy.sameEs_iff] at h
      have h3 := HX.out
      rw [h, HY.out] at h3
      have h4 := HSX.out
      rw [Option.some.inj h3, (Sy.sameE_iff x x).2 rfl] at h4
      cases h4]
     rfl
    ·go_wp2_with fail
     rw [← HW5.out]
     refine HCALL.out.mono ?_
     rintro e' w6 ⟨rfl, hb6⟩
     have HB6 := Lib.hid (HB5.out.trans (hb6.mono HB5.out.size))
     clear hb6 HW5 x0 x1 x2 x3 x4 x5 y0 y1 y2 y3 y4 y5 hl1 hl2
     go_wp2_with fail
     go_roundg (N1 - (j + 1))
     case measure => omega
     case rel => exact ⟨j + 1, by go_num, by omega, rfl, take_grow HT.out HX.out (by rw [HY.out, (Sy.sameE_iff x y).1 HSX.out]), HB6⟩
   ·obtain rfl : j = N1 := by omega
    go_wp2_with fail
    go_ret
    refine ⟨?_, HB.out⟩
    rw [(Sy.sameEs_iff l1 l2).2 (by have h := HT.out; rw [List.take_of_length_le (by rw [HN1.out]; exact Nat.le_refl _), List.take_of_length_le (by rw [HN2.out]; exact Nat.le_refl _)] at h; exact h)]
    rfl
 ·have hf : Sy.sameEs l1 l2 = false := by
   rw [Bool.eq_false_iff]
   intro h
   rw [Sy.sameEs_iff] at h
   exact hne (by rw [← HN1.out, ← HN2.out, h])
  rw [hf]
  clear hf
  have hne2 : ¬ (N1 : Int) = (N2 : Int) := by omega
  go_enter Tryz.func43, Tryz.ntmps43
  go_wp2_with fail
  go_ret
  exact ⟨rfl, Below.refl _ _⟩
end Go.Proofs.YtdckddkalgnlpaaGreatDoor
namespace Go.Proofs.YtdckddkalgnlpaaGreatDoor
open Go.RowKit Go.Maps
theorem list_ne {a b : ByteArray} (h : ¬ a = b) : ¬ a.toList = b.toList := by
 intro e
 rw [Lib.toList_data, Lib.toList_data] at e
 apply h
 cases a; cases b
 congr 1
 exact Array.toList_inj.1 e
set_option maxRecDepth 100000 in
set_option maxHeartbeats 4000000 in
theorem equalExpr_any : ∀ d : Nat, EqEC d := by
 intro d
 induction d with
 | zero => intro x y v1 v2 W hd; have := x.deep_pos; omega
 | succ d ih =>
   intro x y v1 v2 w hd h1 h2
   have hde := E_deep_eq x
   obtain ⟨k, o, i, nm, a, l⟩ := x
   obtain ⟨k', o', i', nm', a', l'⟩ := y
   have h1 : SlE w v1 l := h1
   have h2 : SlE w v2 l' := h2
   have hde : (Tr.E.mk k o i nm a l).deep = 1 + Tr.E.deep.deeps l := hde
   obtain ⟨p1, c1, rfl, _⟩ := h1.form
   obtain ⟨p2, c2, rfl, _⟩ := h2.form
   obtain ⟨N1, hN1⟩ : ∃ q, l.length = q := ⟨_, rfl⟩
   obtain ⟨N2, hN2⟩ : ∃ q, l'.length = q := ⟨_, rfl⟩
   rw [hN1] at h1 ⊢
   rw [hN2] at h2 ⊢
   have hb1 := below_box w (.cells #[.int .i64 k, .int .i64 o, .int .i64 i, .string nm, .bool a, .slice p1 N1 c1] 33)
   have hb2 := hb1.alloc hb1.size (.cells #[.int .i64 k', .int .i64 o', .int .i64 i', .string nm', .bool a', .slice p2 N2 c2] 33)
   obtain ⟨w2, hw2⟩ : ∃ q, q = (w.alloc (.cells #[.int .i64 k, .int .i64 o, .int .i64 i, .string nm, .bool a, .slice p1 N1 c1] 33)).alloc (.cells #[.int .i64 k', .int .i64 o', .int .i64 i', .string nm', .bool a', .slice p2 N2 c2] 33) := ⟨_, rfl⟩
   have HB2 : Hid (Below w.heap.size w w2) := by rw [hw2]; exact hb2
   have hcall := eqFuncE_of ih l l' p1 N1 c1 p2 N2 c2 w2 (by omega) hN1 hN2 (h1.keep HB2.out) (h2.keep HB2.out)
   have HCALL := Lib.hid hcall
   have HW2 := Lib.hid hw2
   unfold exprV
   simp only [Tr.E.kind, Tr.E.op, Tr.E.int, Tr.E.name, Tr.E.at_]
   clear hde h1 h2 hN1 hN2 hb1 hb2 hw2 hcall hd ih
   by_cases hk : k = k'
   ·subst hk
    by_cases ho : o = o'
    ·subst ho
     by_cases hi : i = i'
     ·subst hi
      by_cases hn : nm = nm'
      ·subst hn
       by_cases ha : a = a'
       ·subst ha
        go_enter Tryz.func19, Tryz.ntmps19
        go_wp2_with fail
        rw [← HW2.out]
        refine HCALL.out.mono ?_
        rintro e' w3 ⟨rfl, hb3⟩
        have HB3 := Lib.hid (HB2.out.trans (hb3.mono HB2.out.size))
        clear hb3 HW2
        go_wp2_with fail
        go_ret
        exact ⟨by rw [Sy.sameE]; simp, HB3.out⟩
       ·have hf : Sy.sameE (.mk k o i nm a l) (.mk k o i nm a' l') = false := by rw [Sy.sameE]; simp [ha]
        rw [hf]
        clear hf
        go_enter Tryz.func19, Tryz.ntmps19
        go_wp2_with fail
        rw [← HW2.out]
        go_ret
        exact ⟨rfl, HB2.out⟩
      ·have hf : Sy.sameE (.mk k o i nm a l) (.mk k o i nm' a' l') = false := by rw [Sy.sameE]; simp [hn]
       have hn2 := list_ne hn
       rw [hf]
       clear hf
       go_enter Tryz.func19, Tryz.ntmps19
       go_wp2_with fail
       rw [← HW2.out]
       go_ret
       exact ⟨rfl, HB2.out⟩
     ·have hf : Sy.sameE (.mk k o i nm a l) (.mk k o i' nm' a' l') = false := by rw [Sy.sameE]; simp [hi]
      rw [hf]
      clear hf
      go_enter Tryz.func19, Tryz.ntmps19
      go_wp2_with fail
      rw [← HW2.out]
      go_ret
      exact ⟨rfl, HB2.out⟩
    ·have hf : Sy.sameE (.mk k o i nm a l) (.mk k o' i' nm' a' l') = false := by rw [Sy.sameE]; simp [ho]
     rw [hf]
     clear hf
     go_enter Tryz.func19, Tryz.ntmps19
     go_wp2_with fail
     rw [← HW2.out]
     go_ret
     exact ⟨rfl, HB2.out⟩
   ·have hf : Sy.sameE (.mk k o i nm a l) (.mk k' o' i' nm' a' l') = false := by rw [Sy.sameE]; simp [hk]
    rw [hf]
    clear hf
    go_enter Tryz.func19, Tryz.ntmps19
    go_wp2_with fail
    rw [← HW2.out]
    go_ret
    exact ⟨rfl, HB2.out⟩
end Go.Proofs.YtdckddkalgnlpaaGreatDoor
