/-
  The parser's run, walked: the tokens are there.
-/
import Derived.Test.YtdckddkalgnlpaaGreatDoorA29
namespace Go.Proofs.YtdckddkalgnlpaaGreatDoor
open Go.RowKit Go.Maps Pw
theorem ev_ifp {α : Type} {c : Prop} [Decidable c] {p q : Nat → Pa.R α} {x : Pa.R α} (h : c) (hb : Pa.Ev p x) : Pa.Ev (fun f => if c then p f else q f) x := by
 obtain ⟨F, hb⟩ := hb
 exact ⟨F, fun f hf => (if_pos h).trans (hb f hf)⟩
theorem ev_ifn {α : Type} {c : Prop} [Decidable c] {p q : Nat → Pa.R α} {x : Pa.R α} (h : ¬ c) (hb : Pa.Ev q x) : Pa.Ev (fun f => if c then p f else q f) x := by
 obtain ⟨F, hb⟩ := hb
 exact ⟨F, fun f hf => (if_neg h).trans (hb f hf)⟩
set_option maxRecDepth 100000 in
set_option maxHeartbeats 8000000 in
theorem runP_ok (s : ByteArray) (w : World) (hE : LexEnv w) (hs : s.size ≤ 16384) (ts : List Lex.Tok) (hsc : Lex.scan s.data.toList = .toks ts) :
 Calls Tryz.prog 24 #[.string s, .func (.func 25) #[] #[]] w (RunP w ts) := by
 have HSC := Lib.hid hsc
 obtain ⟨htk, hnq, hl0, hl1⟩ := scan_tkl hsc
 obtain ⟨n, hn⟩ : ∃ q, ts.length - 1 = q := ⟨_, rfl⟩
 unfold RunP
 rw [hn] at htk ⊢
 have HTK := Lib.hid htk
 have HNQ := Lib.hid hnq
 obtain ⟨N, hN⟩ : ∃ q, ts.length = q := ⟨_, rfl⟩
 have HN := Lib.hid hN
 have hNn : N ≤ n + 1 := by omega
 have hNn2 : n + 1 ≤ N := by omega
 have hNf : N ≤ 16385 := by omega
 clear htk hnq hl0 hl1 hn hN hsc
 obtain ⟨w3, HW, A3⟩ := ABC.start w #[.slice none 0 0] 25
 have HE := Lib.hid (hE.keep A3.out.below)
 have hmf := mkFunc
 clear hE
 go_enter_defers Tryz.func24, Tryz.ntmps24
 go_upto_region 1 with fail
 rw [← HW.out]
 clear HW
 obtain ⟨la, ca0, fa0⟩ := cells1 A3.out.a
 obtain ⟨lb, cb, fb⟩ := cells1 A3.out.b
 obtain ⟨lc, cc, fc⟩ := cells1 A3.out.c
 go_wp2_with fail
 clear la ca0 fa0 lb cb fb lc cc fc
 refine (scan_toks2 s ts w3 HE.out hs HSC.out (fun h => by have := HN.out; rw [h] at this; simp at this; omega)).mono ?_
 rintro e w4 ⟨g, cap, rfl, hcap, hta, hg1, hg2, hb4⟩
 rw [HN.out] at hcap ⊢
 have hl3 := A3.out.lt
 have A4 := Lib.hid (A3.out.keep (gr_below hb4 none) (fun _ h => by cases h))
 clear A3 hb4
 obtain ⟨la, ca0, fa0⟩ := cells1 A4.out.a
 obtain ⟨lb, cb, fb⟩ := cells1 A4.out.b
 obtain ⟨lc, cc, fc⟩ := cells1 A4.out.c
 obtain ⟨w5, HW⟩ : ∃ q, Hid (q = (w4.setCell ⟨w.heap.size + 1, 0, none⟩ (.int .i64 0)).setCell ⟨w.heap.size + 2, 0, none⟩ (.int .i64 0)) := ⟨_, Lib.hid rfl⟩
 have A5 := Lib.hid ((A4.out.setB 0).setC 0)
 rw [← HW.out] at A5
 have htb : ToksAt (w4.setCell ⟨w.heap.size + 1, 0, none⟩ (.int .i64 0)) g ts := (fun j t hj => ⟨gr_cell (gr_set w4 (w.heap.size + 1) 0 (.int .i64 0)) ((hta j t hj).1) (ne_sm (by omega)), gr_cell (gr_set w4 (w.heap.size + 1) 0 (.int .i64 0)) ((hta j t hj).2.1) (ne_sm (by omega)), gr_cell (gr_set w4 (w.heap.size + 1) 0 (.int .i64 0)) ((hta j t hj).2.2.1) (ne_sm (by omega)), gr_cell (gr_set w4 (w.heap.size + 1) 0 (.int .i64 0)) ((hta j t hj).2.2.2) (ne_sm (by omega))⟩)
 have htc : ToksAt w5 g ts := by rw [HW.out]; exact (fun j t hj => ⟨gr_cell (gr_set _ (w.heap.size + 2) 0 (.int .i64 0)) ((htb j t hj).1) (ne_sm (by omega)), gr_cell (gr_set _ (w.heap.size + 2) 0 (.int .i64 0)) ((htb j t hj).2.1) (ne_sm (by omega)), gr_cell (gr_set _ (w.heap.size + 2) 0 (.int .i64 0)) ((htb j t hj).2.2.1) (ne_sm (by omega)), gr_cell (gr_set _ (w.heap.size + 2) 0 (.int .i64 0)) ((htb j t hj).2.2.2) (ne_sm (by omega))⟩)
 have hz5 : w4.heap.size ≤ w5.heap.size := by rw [HW.out]; simp
 have HTC := Lib.hid htc
 clear hta htb htc
 go_upto_region 2 with fail
 rw [← HW.out]
 clear la ca0 fa0 lb cb fb lc cc fc HW A4
 have hbp := below_box w5 (.cells #[.slice (some ⟨g, 0, none⟩) N cap, .int .i64 0] 102)
 have hnp := new_at (w := w5) (o := .cells #[.slice (some ⟨g, 0, none⟩) N cap, .int .i64 0] 102) rfl
 have hl5 := A5.out.lt
 obtain ⟨P, HPN⟩ : ∃ q, Hid (q = w5.heap.size) := ⟨_, Lib.hid rfl⟩
 obtain ⟨w6, HW⟩ : ∃ q, Hid (q = w5.alloc (.cells #[.slice (some ⟨g, 0, none⟩) N cap, .int .i64 0] 102)) := ⟨_, Lib.hid rfl⟩
 rw [← HW.out, ← HPN.out] at hnp
 rw [← HW.out] at hbp
 have hp1 : P ≤ w5.heap.size := Nat.le_of_eq HPN.out
 have hp2 : w5.heap.size ≤ P := Nat.le_of_eq HPN.out.symm
 have hp3 : P + 1 ≤ w6.heap.size := lt_of_block hnp
 have A6 := Lib.hid (A5.out.keep (gr_below hbp none) (fun _ h => by cases h))
 have HNE : Hid (N = n + 1) := Lib.hid (by omega)
 have hps : PS ts n g cap P 0 w6 := ⟨by rw [← HNE.out]; exact hnp, fun j t hj => by
  obtain ⟨a1, a2, a3, a4⟩ := HTC.out j t hj
  exact ⟨cell_keep' hbp a1, cell_keep' hbp a2, cell_keep' hbp a3, cell_keep' hbp a4⟩, by have := hbp.size; omega, by omega, Nat.zero_le _, by omega⟩
 have HPS := Lib.hid hps
 clear hps hnp HTC hbp
 obtain ⟨la, ca0, fa0⟩ := cells1 A5.out.a
 obtain ⟨lb, cb, fb⟩ := cells1 A5.out.b
 obtain ⟨lc, cc, fc⟩ := cells1 A5.out.c
 go_wp2_with fail
 clear la ca0 fa0 lb cb fb lc cc fc
 rw [← HPN.out, ← HW.out]
 clear HPN HW A5
 refine (program_any9 HTK.out HNQ.out 0 w6 HPS.out).mono ?_
 rintro e w7 ⟨hg_, ⟨cs, v, k1, hev, rfl, hsl, hrc, hac, hlt1, hp7⟩ | ⟨k1, t, hev_, rfl, hle_, hkn_, ht_⟩⟩
 ·obtain ⟨pv, cv, rfl⟩ := hsl.form
  obtain ⟨NV, hNV⟩ : ∃ q, cs.length = q := ⟨_, rfl⟩
  rw [hNV] at hsl ⊢
  have HRC := Lib.hid hrc
  have HAC := Lib.hid hac
  clear hrc hac
  have A7 := Lib.hid (A6.out.keep hg_ (fun q h => by injection h; omega))
  have hz7 := hg_.size
  clear A6 hg_
  have HEV := Lib.hid hev
  have hkn1 := hp7.le
  obtain ⟨t, ht_⟩ := HTK.out.get (k := k1) hkn1
  have HT := Lib.hid ht_
  have hl7 := A7.out.lt
  clear hev ht_ hNV
  obtain ⟨la, ca0, fa0⟩ := cells1 A7.out.a
  obtain ⟨lb, cb, fb⟩ := cells1 A7.out.b
  obtain ⟨lc, cc, fc⟩ := cells1 A7.out.c
  obtain ⟨w8, HW⟩ : ∃ q, Hid (q = (w7.setCell ⟨w.heap.size, 0, none⟩ (.slice pv NV cv))) := ⟨_, Lib.hid rfl⟩
  have A8 : Hid (ABC w #[.slice pv NV cv] 25 0 0 w8) := by rw [HW.out]; exact A7.out.setA (gr_set _ _ 0 (.slice pv NV cv)) (heap_set (j := 0) (.slice pv NV cv) A7.out.a)
  have HS8 : Hid (SlC (hide (upL w6.heap.size []) w8) (.slice pv NV cv) cs) := by rw [HW.out]; exact hsl.inc (inc_set (by omega))
  have HP8 : Hid (PS ts n g cap P k1 w8) := by rw [HW.out]; exact (hp7).keep (gr_set _ _ _ _) (ne_sm (by omega)) (ne_sm (by omega))
  have hz8 : w7.heap.size ≤ w8.heap.size := by rw [HW.out]; simp
  clear hsl hp7
  go_upto_region 7 with fail
  rw [← HW.out]
  clear la ca0 fa0 lb cb fb lc cc fc HW A7
  by_cases hk0 : t.kind = 0
  ·have kz : ((t.kind : Int) != 0) = false := by rw [bne, show ((0 : Int)) = ((0 : Nat) : Int) from rfl, kind_beq, hk0, beq_self_eq_true, Bool.not_true]
   have hf0 := field0
   obtain ⟨la, ca0, fa0⟩ := cells1 A8.out.a
   obtain ⟨lb, cb, fb⟩ := cells1 A8.out.b
   obtain ⟨lc, cc, fc⟩ := cells1 A8.out.c
   go_wp2_with fail
   clear la ca0 fa0 lb cb fb lc cc fc
   refine (next_any HP8.out HTK.out HT.out).mono ?_
   rintro e wn ⟨rfl, hbn⟩
   unfold tkV
   have AN := Lib.hid (A8.out.keep (gr_below hbn none) (fun _ h => by cases h))
   have hzn := hbn.size
   have HSN := Lib.hid (HS8.out.inc (up_step (l' := []) (B' := w6.heap.size) (gr_below hbn none) (fun _ h => by cases h) (fun _ _ h => h)))
   have HPN := Lib.hid (HP8.out.below hbn)
   clear hbn A8 HS8 HP8
   obtain ⟨la, ca0, fa0⟩ := cells1 AN.out.a
   obtain ⟨lb, cb, fb⟩ := cells1 AN.out.b
   obtain ⟨lc, cc, fc⟩ := cells1 AN.out.c
   go_wp2_with fail
   rw [set_same AN.out.a (j := 0) (v := .slice pv NV cv) rfl, set_same AN.out.b (j := 0) (v := .int .i64 0) rfl, set_same AN.out.c (j := 0) (v := .int .i64 0) rfl]
   refine leaves_cons (f := 56) (args := #[.pointer (some ⟨w.heap.size, 0, none⟩), .pointer (some ⟨w.heap.size + 1, 0, none⟩), .pointer (some ⟨w.heap.size + 2, 0, none⟩)]) (by simp) (by simp [go_sem]) ?_
   refine (catchP_idle (w.heap.size) (w.heap.size + 1) (w.heap.size + 2) _).mono ?_
   rintro e9 u9 w9' ⟨rfl, rfl, rfl⟩
   have hk9 : k1 = n := by
    rcases Nat.lt_or_ge k1 n with h | h
    ·exact absurd hk0 (HTK.out.kind k1 t h HT.out)
    ·omega
   exact ⟨.tuple #[.agg #[.slice pv NV cv], .int .i64 0, .int .i64 0], by simp [results, Tryz.results24, go_sem, *], AN.out.below, .inl ⟨cs, .slice pv NV cv, HEV.out _ (.step (q := fun _ => .ok cs []) (fun f => by rw [Pa.pP, if_pos ((head_kind HTK.out hkn1 HT.out).trans hk0), hk9, Pa.rest_end]) (.const _)), rfl, HSN.out.inc (up_mono (B := w6.heap.size) (l := []) (B' := w.heap.size) (l' := []) (by intro k hk h; simp only [List.not_mem_nil, or_false] at h ⊢; omega))⟩⟩
  ·have kz : ((t.kind : Int) != 0) = true := by rw [bne, show ((0 : Int)) = ((0 : Nat) : Int) from rfl, kind_beq, beq_eq_false_iff_ne.2 hk0, Bool.not_false]
   have hf0 := field0
   obtain ⟨la, ca0, fa0⟩ := cells1 A8.out.a
   obtain ⟨lb, cb, fb⟩ := cells1 A8.out.b
   obtain ⟨lc, cc, fc⟩ := cells1 A8.out.c
   go_wp2_with fail
   clear la ca0 fa0 lb cb fb lc cc fc
   refine (next_any HP8.out HTK.out HT.out).mono ?_
   rintro e wn ⟨rfl, hbn⟩
   unfold tkV
   have AN := Lib.hid (A8.out.keep (gr_below hbn none) (fun _ h => by cases h))
   have hzn := hbn.size
   have HSN := Lib.hid (HS8.out.inc (up_step (l' := []) (B' := w6.heap.size) (gr_below hbn none) (fun _ h => by cases h) (fun _ _ h => h)))
   have HPN := Lib.hid (HP8.out.below hbn)
   clear hbn A8 HS8 HP8
   have hlt9 := kind_lt HTK.out hkn1 HT.out hk0
   obtain ⟨la, ca0, fa0⟩ := cells1 AN.out.a
   obtain ⟨lb, cb, fb⟩ := cells1 AN.out.b
   obtain ⟨lc, cc, fc⟩ := cells1 AN.out.c
   go_wp2_with fail
   clear la ca0 fa0 lb cb fb lc cc fc
   refine (fail_any HPN.out HTK.out HT.out).mono ?_
   rintro e wf ⟨rfl, hbf⟩
   have AF := Lib.hid (AN.out.keep (gr_below hbf none) (fun _ h => by cases h))
   have hzf := hbf.size
   clear hbf AN
   obtain ⟨la, ca0, fa0⟩ := cells1 AF.out.a
   obtain ⟨lb, cb, fb⟩ := cells1 AF.out.b
   obtain ⟨lc, cc, fc⟩ := cells1 AF.out.c
   go_wp2_with fail
   refine leaves_cons (f := 56) (args := #[.pointer (some ⟨w.heap.size, 0, none⟩), .pointer (some ⟨w.heap.size + 1, 0, none⟩), .pointer (some ⟨w.heap.size + 2, 0, none⟩)]) (by simp) (by simp [go_sem]) ?_
   refine (catchP_fail (w.heap.size) (w.heap.size + 1) (w.heap.size + 2) (.slice pv NV cv) 0 0 t.pos [] wf ca0 fa0 cb fb cc fc (by omega) (by omega) (by omega)).mono ?_
   rintro e9 u9 w9 ⟨rfl, rfl, rfl⟩
   have AZ := Lib.hid ((((AF.out.setA (gr_set _ _ 0 (.slice none 0 0)) (heap_set (j := 0) (.slice none 0 0) AF.out.a)).setB t.pos).setC 3).keep (gr_below (below_box _ (.cells #[.slice none 0 0] 25)) none) (fun _ h => by cases h))
   obtain ⟨wz, HZ⟩ : ∃ q, Hid (q = (((wf.setCell ⟨w.heap.size, 0, none⟩ (.slice none 0 0)).setCell ⟨w.heap.size + 1, 0, none⟩ (.int .i64 t.pos)).setCell ⟨w.heap.size + 2, 0, none⟩ (.int .i64 3)).alloc (.cells #[.slice none 0 0] 25)) := ⟨_, Lib.hid rfl⟩
   clear la ca0 fa0 lb cb fb lc cc fc
   have AZ2 : Hid (ABC w #[.slice none 0 0] 25 t.pos 3 wz) := by rw [HZ.out]; exact AZ
   rw [← HZ.out]
   clear HZ AZ
   obtain ⟨la, ca0, fa0⟩ := cells1 AZ2.out.a
   obtain ⟨lb, cb, fb⟩ := cells1 AZ2.out.b
   obtain ⟨lc, cc, fc⟩ := cells1 AZ2.out.c
   exact ⟨.tuple #[.agg #[.slice none 0 0], .int .i64 t.pos, .int .i64 3], by simp [results, Tryz.results24, go_sem, *], AZ2.out.below, .inr ⟨k1, t, HEV.out _ (ev_pP HTK.out hlt9 (.bad (.cong (fun f => pC_bad HTK.out hkn1 HAC.out HRC.out f) (.const _)))), by omega, HT.out, rfl⟩⟩
 ·have A7 := Lib.hid (A6.out.keep hg_ (fun q h => by injection h; omega))
  have hz7 := hg_.size
  clear A6 hg_
  obtain ⟨la, ca0, fa0⟩ := cells1 A7.out.a
  obtain ⟨lb, cb, fb⟩ := cells1 A7.out.b
  obtain ⟨lc, cc, fc⟩ := cells1 A7.out.c
  go_wp2_with fail
  refine leaves_cons (f := 56) (args := #[.pointer (some ⟨w.heap.size, 0, none⟩), .pointer (some ⟨w.heap.size + 1, 0, none⟩), .pointer (some ⟨w.heap.size + 2, 0, none⟩)]) (by simp) (by simp [go_sem]) ?_
  refine (catchP_fail (w.heap.size) (w.heap.size + 1) (w.heap.size + 2) (.slice none 0 0) 0 0 t.pos [] w7 ca0 fa0 cb fb cc fc (by omega) (by omega) (by omega)).mono ?_
  rintro e9 u9 w9 ⟨rfl, rfl, rfl⟩
  have AZ := Lib.hid ((((A7.out.setA (gr_set _ _ 0 (.slice none 0 0)) (heap_set (j := 0) (.slice none 0 0) A7.out.a)).setB t.pos).setC 3).keep (gr_below (below_box _ (.cells #[.slice none 0 0] 25)) none) (fun _ h => by cases h))
  obtain ⟨wz, HZ⟩ : ∃ q, Hid (q = (((w7.setCell ⟨w.heap.size, 0, none⟩ (.slice none 0 0)).setCell ⟨w.heap.size + 1, 0, none⟩ (.int .i64 t.pos)).setCell ⟨w.heap.size + 2, 0, none⟩ (.int .i64 3)).alloc (.cells #[.slice none 0 0] 25)) := ⟨_, Lib.hid rfl⟩
  clear la ca0 fa0 lb cb fb lc cc fc
  have AZ2 : Hid (ABC w #[.slice none 0 0] 25 t.pos 3 wz) := by rw [HZ.out]; exact AZ
  rw [← HZ.out]
  clear HZ AZ
  obtain ⟨la, ca0, fa0⟩ := cells1 AZ2.out.a
  obtain ⟨lb, cb, fb⟩ := cells1 AZ2.out.b
  obtain ⟨lc, cc, fc⟩ := cells1 AZ2.out.c
  exact ⟨.tuple #[.agg #[.slice none 0 0], .int .i64 t.pos, .int .i64 3], by simp [results, Tryz.results24, go_sem, *], AZ2.out.below, .inr ⟨k1, t, hev_, by omega, ht_, rfl⟩⟩
set_option maxRecDepth 100000 in
set_option maxHeartbeats 8000000 in
theorem runE_ok (s : ByteArray) (w : World) (hE : LexEnv w) (hs : s.size ≤ 16384) (ts : List Lex.Tok) (hsc : Lex.scan s.data.toList = .toks ts) :
 Calls Tryz.prog 32 #[.string s, .func (.func 33) #[] #[]] w (RunE w ts) := by
 have HSC := Lib.hid hsc
 obtain ⟨htk, hnq, hl0, hl1⟩ := scan_tkl hsc
 obtain ⟨n, hn⟩ : ∃ q, ts.length - 1 = q := ⟨_, rfl⟩
 unfold RunE
 rw [hn] at htk ⊢
 have HTK := Lib.hid htk
 have HNQ := Lib.hid hnq
 obtain ⟨N, hN⟩ : ∃ q, ts.length = q := ⟨_, rfl⟩
 have HN := Lib.hid hN
 have hNn : N ≤ n + 1 := by omega
 have hNn2 : n + 1 ≤ N := by omega
 have hNf : N ≤ 16385 := by omega
 clear htk hnq hl0 hl1 hn hN hsc
 obtain ⟨w3, HW, A3⟩ := ABC.start w #[.int .i64 0, .int .i64 0, .int .i64 0, .string ⟨#[]⟩, .bool false, .slice none 0 0] 33
 have HE := Lib.hid (hE.keep A3.out.below)
 have hmf := mkFunc
 clear hE
 go_enter_defers Tryz.func32, Tryz.ntmps32
 go_upto_region 1 with fail
 rw [← HW.out]
 clear HW
 obtain ⟨la, ca0, fa0, ca1, fa1, ca2, fa2, ca3, fa3, ca4, fa4, ca5, fa5⟩ := cells6 A3.out.a
 obtain ⟨lb, cb, fb⟩ := cells1 A3.out.b
 obtain ⟨lc, cc, fc⟩ := cells1 A3.out.c
 go_wp2_with fail
 clear la ca0 fa0 ca1 fa1 ca2 fa2 ca3 fa3 ca4 fa4 ca5 fa5 lb cb fb lc cc fc
 refine (scan_toks2 s ts w3 HE.out hs HSC.out (fun h => by have := HN.out; rw [h] at this; simp at this; omega)).mono ?_
 rintro e w4 ⟨g, cap, rfl, hcap, hta, hg1, hg2, hb4⟩
 rw [HN.out] at hcap ⊢
 have hl3 := A3.out.lt
 have A4 := Lib.hid (A3.out.keep (gr_below hb4 none) (fun _ h => by cases h))
 clear A3 hb4
 obtain ⟨la, ca0, fa0, ca1, fa1, ca2, fa2, ca3, fa3, ca4, fa4, ca5, fa5⟩ := cells6 A4.out.a
 obtain ⟨lb, cb, fb⟩ := cells1 A4.out.b
 obtain ⟨lc, cc, fc⟩ := cells1 A4.out.c
 obtain ⟨w5, HW⟩ : ∃ q, Hid (q = (w4.setCell ⟨w.heap.size + 1, 0, none⟩ (.int .i64 0)).setCell ⟨w.heap.size + 2, 0, none⟩ (.int .i64 0)) := ⟨_, Lib.hid rfl⟩
 have A5 := Lib.hid ((A4.out.setB 0).setC 0)
 rw [← HW.out] at A5
 have htb : ToksAt (w4.setCell ⟨w.heap.size + 1, 0, none⟩ (.int .i64 0)) g ts := (fun j t hj => ⟨gr_cell (gr_set w4 (w.heap.size + 1) 0 (.int .i64 0)) ((hta j t hj).1) (ne_sm (by omega)), gr_cell (gr_set w4 (w.heap.size + 1) 0 (.int .i64 0)) ((hta j t hj).2.1) (ne_sm (by omega)), gr_cell (gr_set w4 (w.heap.size + 1) 0 (.int .i64 0)) ((hta j t hj).2.2.1) (ne_sm (by omega)), gr_cell (gr_set w4 (w.heap.size + 1) 0 (.int .i64 0)) ((hta j t hj).2.2.2) (ne_sm (by omega))⟩)
 have htc : ToksAt w5 g ts := by rw [HW.out]; exact (fun j t hj => ⟨gr_cell (gr_set _ (w.heap.size + 2) 0 (.int .i64 0)) ((htb j t hj).1) (ne_sm (by omega)), gr_cell (gr_set _ (w.heap.size + 2) 0 (.int .i64 0)) ((htb j t hj).2.1) (ne_sm (by omega)), gr_cell (gr_set _ (w.heap.size + 2) 0 (.int .i64 0)) ((htb j t hj).2.2.1) (ne_sm (by omega)), gr_cell (gr_set _ (w.heap.size + 2) 0 (.int .i64 0)) ((htb j t hj).2.2.2) (ne_sm (by omega))⟩)
 have hz5 : w4.heap.size ≤ w5.heap.size := by rw [HW.out]; simp
 have HTC := Lib.hid htc
 clear hta htb htc
 go_upto_region 2 with fail
 rw [← HW.out]
 clear la ca0 fa0 ca1 fa1 ca2 fa2 ca3 fa3 ca4 fa4 ca5 fa5 lb cb fb lc cc fc HW A4
 have hbp := below_box w5 (.cells #[.slice (some ⟨g, 0, none⟩) N cap, .int .i64 0] 102)
 have hnp := new_at (w := w5) (o := .cells #[.slice (some ⟨g, 0, none⟩) N cap, .int .i64 0] 102) rfl
 have hl5 := A5.out.lt
 obtain ⟨P, HPN⟩ : ∃ q, Hid (q = w5.heap.size) := ⟨_, Lib.hid rfl⟩
 obtain ⟨w6, HW⟩ : ∃ q, Hid (q = w5.alloc (.cells #[.slice (some ⟨g, 0, none⟩) N cap, .int .i64 0] 102)) := ⟨_, Lib.hid rfl⟩
 rw [← HW.out, ← HPN.out] at hnp
 rw [← HW.out] at hbp
 have hp1 : P ≤ w5.heap.size := Nat.le_of_eq HPN.out
 have hp2 : w5.heap.size ≤ P := Nat.le_of_eq HPN.out.symm
 have hp3 : P + 1 ≤ w6.heap.size := lt_of_block hnp
 have A6 := Lib.hid (A5.out.keep (gr_below hbp none) (fun _ h => by cases h))
 have HNE : Hid (N = n + 1) := Lib.hid (by omega)
 have hps : PS ts n g cap P 0 w6 := ⟨by rw [← HNE.out]; exact hnp, fun j t hj => by
  obtain ⟨a1, a2, a3, a4⟩ := HTC.out j t hj
  exact ⟨cell_keep' hbp a1, cell_keep' hbp a2, cell_keep' hbp a3, cell_keep' hbp a4⟩, by have := hbp.size; omega, by omega, Nat.zero_le _, by omega⟩
 have HPS := Lib.hid hps
 clear hps hnp HTC hbp
 obtain ⟨la, ca0, fa0, ca1, fa1, ca2, fa2, ca3, fa3, ca4, fa4, ca5, fa5⟩ := cells6 A5.out.a
 obtain ⟨lb, cb, fb⟩ := cells1 A5.out.b
 obtain ⟨lc, cc, fc⟩ := cells1 A5.out.c
 go_wp2_with fail
 clear la ca0 fa0 ca1 fa1 ca2 fa2 ca3 fa3 ca4 fa4 ca5 fa5 lb cb fb lc cc fc
 rw [← HPN.out, ← HW.out]
 clear HPN HW A5
 refine (pexpr_any HTK.out 0 w6 HPS.out).mono ?_
 rintro e w7 ⟨hg_, ⟨e1, v, k1, hev, rfl, ⟨a, rfl, hbd, hsl⟩, hlt1, hp7⟩ | ⟨k1, t, hev_, rfl, hle_, hkn_, ht_⟩⟩
 ·obtain ⟨pv, cv, rfl, _⟩ := hsl.form
  obtain ⟨NV, hNV⟩ : ∃ q, e1.args.length = q := ⟨_, rfl⟩
  rw [hNV] at hsl ⊢
  have HBD := Lib.hid hbd
  clear hbd
  unfold exprV
  have A7 := Lib.hid (A6.out.keep hg_ (fun q h => by injection h; omega))
  have hz7 := hg_.size
  clear A6 hg_
  have HEV := Lib.hid hev
  have hkn1 := hp7.le
  obtain ⟨t, ht_⟩ := HTK.out.get (k := k1) hkn1
  have HT := Lib.hid ht_
  have hl7 := A7.out.lt
  clear hev ht_ hNV
  obtain ⟨la, ca0, fa0, ca1, fa1, ca2, fa2, ca3, fa3, ca4, fa4, ca5, fa5⟩ := cells6 A7.out.a
  obtain ⟨lb, cb, fb⟩ := cells1 A7.out.b
  obtain ⟨lc, cc, fc⟩ := cells1 A7.out.c
  obtain ⟨w8, HW⟩ : ∃ q, Hid (q = ((((((w7.setCell ⟨w.heap.size, 0, none⟩ (.int .i64 e1.kind)).setCell ⟨w.heap.size, 1, none⟩ (.int .i64 e1.op)).setCell ⟨w.heap.size, 2, none⟩ (.int .i64 e1.int)).setCell ⟨w.heap.size, 3, none⟩ (.string e1.name)).setCell ⟨w.heap.size, 4, none⟩ (.bool e1.at_)).setCell ⟨w.heap.size, 5, none⟩ (.slice pv NV cv))) := ⟨_, Lib.hid rfl⟩
  have A8 : Hid (ABC w #[.int .i64 e1.kind, .int .i64 e1.op, .int .i64 e1.int, .string e1.name, .bool e1.at_, .slice pv NV cv] 33 0 0 w8) := by rw [HW.out]; exact A7.out.setA (set6_gr w7 w.heap.size (.int .i64 e1.kind) (.int .i64 e1.op) (.int .i64 e1.int) (.string e1.name) (.bool e1.at_) (.slice pv NV cv)) (set6_blk (.int .i64 e1.kind) (.int .i64 e1.op) (.int .i64 e1.int) (.string e1.name) (.bool e1.at_) (.slice pv NV cv) A7.out.a)
  have HS8 : Hid (SlE (hide (upL w6.heap.size []) w8) (.slice pv NV cv) e1.args) := by rw [HW.out]; exact hsl.inc (((((((Inc.refl _).trans (inc_set (by omega))).trans (inc_set (by omega))).trans (inc_set (by omega))).trans (inc_set (by omega))).trans (inc_set (by omega))).trans (inc_set (by omega)))
  have HP8 : Hid (PS ts n g cap P k1 w8) := by rw [HW.out]; exact ((((((hp7).keep (gr_set _ _ _ _) (ne_sm (by omega)) (ne_sm (by omega))).keep (gr_set _ _ _ _) (ne_sm (by omega)) (ne_sm (by omega))).keep (gr_set _ _ _ _) (ne_sm (by omega)) (ne_sm (by omega))).keep (gr_set _ _ _ _) (ne_sm (by omega)) (ne_sm (by omega))).keep (gr_set _ _ _ _) (ne_sm (by omega)) (ne_sm (by omega))).keep (gr_set _ _ _ _) (ne_sm (by omega)) (ne_sm (by omega))
  have hz8 : w7.heap.size ≤ w8.heap.size := by rw [HW.out]; simp
  clear hsl hp7
  go_upto_region 7 with fail
  rw [← HW.out]
  clear la ca0 fa0 ca1 fa1 ca2 fa2 ca3 fa3 ca4 fa4 ca5 fa5 lb cb fb lc cc fc HW A7
  by_cases hk0 : t.kind = 0
  ·have kz : ((t.kind : Int) != 0) = false := by rw [bne, show ((0 : Int)) = ((0 : Nat) : Int) from rfl, kind_beq, hk0, beq_self_eq_true, Bool.not_true]
   have hf0 := field0
   obtain ⟨la, ca0, fa0, ca1, fa1, ca2, fa2, ca3, fa3, ca4, fa4, ca5, fa5⟩ := cells6 A8.out.a
   obtain ⟨lb, cb, fb⟩ := cells1 A8.out.b
   obtain ⟨lc, cc, fc⟩ := cells1 A8.out.c
   go_wp2_with fail
   clear la ca0 fa0 ca1 fa1 ca2 fa2 ca3 fa3 ca4 fa4 ca5 fa5 lb cb fb lc cc fc
   refine (next_any HP8.out HTK.out HT.out).mono ?_
   rintro e wn ⟨rfl, hbn⟩
   unfold tkV
   have AN := Lib.hid (A8.out.keep (gr_below hbn none) (fun _ h => by cases h))
   have hzn := hbn.size
   have HSN := Lib.hid (HS8.out.inc (up_step (l' := []) (B' := w6.heap.size) (gr_below hbn none) (fun _ h => by cases h) (fun _ _ h => h)))
   have HPN := Lib.hid (HP8.out.below hbn)
   clear hbn A8 HS8 HP8
   obtain ⟨la, ca0, fa0, ca1, fa1, ca2, fa2, ca3, fa3, ca4, fa4, ca5, fa5⟩ := cells6 AN.out.a
   obtain ⟨lb, cb, fb⟩ := cells1 AN.out.b
   obtain ⟨lc, cc, fc⟩ := cells1 AN.out.c
   go_wp2_with fail
   rw [set_same AN.out.a (j := 0) (v := .int .i64 e1.kind) rfl, set_same AN.out.a (j := 1) (v := .int .i64 e1.op) rfl, set_same AN.out.a (j := 2) (v := .int .i64 e1.int) rfl, set_same AN.out.a (j := 3) (v := .string e1.name) rfl, set_same AN.out.a (j := 4) (v := .bool e1.at_) rfl, set_same AN.out.a (j := 5) (v := .slice pv NV cv) rfl, set_same AN.out.b (j := 0) (v := .int .i64 0) rfl, set_same AN.out.c (j := 0) (v := .int .i64 0) rfl]
   refine leaves_cons (f := 69) (args := #[.pointer (some ⟨w.heap.size, 0, none⟩), .pointer (some ⟨w.heap.size + 1, 0, none⟩), .pointer (some ⟨w.heap.size + 2, 0, none⟩)]) (by simp) (by simp [go_sem]) ?_
   refine (catchE_idle (w.heap.size) (w.heap.size + 1) (w.heap.size + 2) _).mono ?_
   rintro e9 u9 w9' ⟨rfl, rfl, rfl⟩
   have hk9 : k1 = n := by
    rcases Nat.lt_or_ge k1 n with h | h
    ·exact absurd hk0 (HTK.out.kind k1 t h HT.out)
    ·omega
   exact ⟨.tuple #[exprV e1 (.slice pv NV cv), .int .i64 0, .int .i64 0], by simp [results, Tryz.results32, go_sem, exprV, *], AN.out.below, .inl ⟨e1, _, .ok HEV.out (by rw [hk9, Pa.rest_end]; exact ev_ifp rfl (.const _)), rfl, ⟨_, rfl, HBD.out, HSN.out.inc (up_mono (B := w6.heap.size) (l := []) (B' := w.heap.size) (l' := []) (by intro k hk h; simp only [List.not_mem_nil, or_false] at h ⊢; omega))⟩⟩⟩
  ·have kz : ((t.kind : Int) != 0) = true := by rw [bne, show ((0 : Int)) = ((0 : Nat) : Int) from rfl, kind_beq, beq_eq_false_iff_ne.2 hk0, Bool.not_false]
   have hf0 := field0
   obtain ⟨la, ca0, fa0, ca1, fa1, ca2, fa2, ca3, fa3, ca4, fa4, ca5, fa5⟩ := cells6 A8.out.a
   obtain ⟨lb, cb, fb⟩ := cells1 A8.out.b
   obtain ⟨lc, cc, fc⟩ := cells1 A8.out.c
   go_wp2_with fail
   clear la ca0 fa0 ca1 fa1 ca2 fa2 ca3 fa3 ca4 fa4 ca5 fa5 lb cb fb lc cc fc
   refine (next_any HP8.out HTK.out HT.out).mono ?_
   rintro e wn ⟨rfl, hbn⟩
   unfold tkV
   have AN := Lib.hid (A8.out.keep (gr_below hbn none) (fun _ h => by cases h))
   have hzn := hbn.size
   have HSN := Lib.hid (HS8.out.inc (up_step (l' := []) (B' := w6.heap.size) (gr_below hbn none) (fun _ h => by cases h) (fun _ _ h => h)))
   have HPN := Lib.hid (HP8.out.below hbn)
   clear hbn A8 HS8 HP8
   have hlt9 := kind_lt HTK.out hkn1 HT.out hk0
   obtain ⟨la, ca0, fa0, ca1, fa1, ca2, fa2, ca3, fa3, ca4, fa4, ca5, fa5⟩ := cells6 AN.out.a
   obtain ⟨lb, cb, fb⟩ := cells1 AN.out.b
   obtain ⟨lc, cc, fc⟩ := cells1 AN.out.c
   go_wp2_with fail
   clear la ca0 fa0 ca1 fa1 ca2 fa2 ca3 fa3 ca4 fa4 ca5 fa5 lb cb fb lc cc fc
   refine (fail_any HPN.out HTK.out HT.out).mono ?_
   rintro e wf ⟨rfl, hbf⟩
   have AF := Lib.hid (AN.out.keep (gr_below hbf none) (fun _ h => by cases h))
   have hzf := hbf.size
   clear hbf AN
   obtain ⟨la, ca0, fa0, ca1, fa1, ca2, fa2, ca3, fa3, ca4, fa4, ca5, fa5⟩ := cells6 AF.out.a
   obtain ⟨lb, cb, fb⟩ := cells1 AF.out.b
   obtain ⟨lc, cc, fc⟩ := cells1 AF.out.c
   go_wp2_with fail
   refine leaves_cons (f := 69) (args := #[.pointer (some ⟨w.heap.size, 0, none⟩), .pointer (some ⟨w.heap.size + 1, 0, none⟩), .pointer (some ⟨w.heap.size + 2, 0, none⟩)]) (by simp) (by simp [go_sem]) ?_
   refine (catchE_fail (w.heap.size) (w.heap.size + 1) (w.heap.size + 2) (.int .i64 e1.kind) (.int .i64 e1.op) (.int .i64 e1.int) (.string e1.name) (.bool e1.at_) (.slice pv NV cv) 0 0 t.pos [] wf ca0 fa0 ca1 fa1 ca2 fa2 ca3 fa3 ca4 fa4 ca5 fa5 cb fb cc fc (by omega) (by omega) (by omega)).mono ?_
   rintro e9 u9 w9 ⟨rfl, rfl, rfl⟩
   have AZ := Lib.hid ((((AF.out.setA (set6_gr wf w.heap.size (.int .i64 0) (.int .i64 0) (.int .i64 0) (.string ⟨#[]⟩) (.bool false) (.slice none 0 0)) (set6_blk (.int .i64 0) (.int .i64 0) (.int .i64 0) (.string ⟨#[]⟩) (.bool false) (.slice none 0 0) AF.out.a)).setB t.pos).setC 3).keep (gr_below (below_box _ (.cells #[.int .i64 0, .int .i64 0, .int .i64 0, .string ⟨#[]⟩, .bool false, .slice none 0 0] 33)) none) (fun _ h => by cases h))
   obtain ⟨wz, HZ⟩ : ∃ q, Hid (q = ((((((((wf.setCell ⟨w.heap.size, 0, none⟩ (.int .i64 0)).setCell ⟨w.heap.size, 1, none⟩ (.int .i64 0)).setCell ⟨w.heap.size, 2, none⟩ (.int .i64 0)).setCell ⟨w.heap.size, 3, none⟩ (.string ⟨#[]⟩)).setCell ⟨w.heap.size, 4, none⟩ (.bool false)).setCell ⟨w.heap.size, 5, none⟩ (.slice none 0 0)).setCell ⟨w.heap.size + 1, 0, none⟩ (.int .i64 t.pos)).setCell ⟨w.heap.size + 2, 0, none⟩ (.int .i64 3)).alloc (.cells #[.int .i64 0, .int .i64 0, .int .i64 0, .string ⟨#[]⟩, .bool false, .slice none 0 0] 33)) := ⟨_, Lib.hid rfl⟩
   clear la ca0 fa0 ca1 fa1 ca2 fa2 ca3 fa3 ca4 fa4 ca5 fa5 lb cb fb lc cc fc
   have AZ2 : Hid (ABC w #[.int .i64 0, .int .i64 0, .int .i64 0, .string ⟨#[]⟩, .bool false, .slice none 0 0] 33 t.pos 3 wz) := by rw [HZ.out]; exact AZ
   rw [← HZ.out]
   clear HZ AZ
   obtain ⟨la, ca0, fa0, ca1, fa1, ca2, fa2, ca3, fa3, ca4, fa4, ca5, fa5⟩ := cells6 AZ2.out.a
   obtain ⟨lb, cb, fb⟩ := cells1 AZ2.out.b
   obtain ⟨lc, cc, fc⟩ := cells1 AZ2.out.c
   exact ⟨.tuple #[.agg #[.int .i64 0, .int .i64 0, .int .i64 0, .string ⟨#[]⟩, .bool false, .slice none 0 0], .int .i64 t.pos, .int .i64 3], by simp [results, Tryz.results32, go_sem, *], AZ2.out.below, .inr ⟨k1, t, .ok HEV.out (ev_ifn (fun h => by have := congrArg List.length h; rw [Pa.rest_len HTK.out] at this; simp at this; omega) (.const _)), by omega, HT.out, rfl⟩⟩
 ·have A7 := Lib.hid (A6.out.keep hg_ (fun q h => by injection h; omega))
  have hz7 := hg_.size
  clear A6 hg_
  obtain ⟨la, ca0, fa0, ca1, fa1, ca2, fa2, ca3, fa3, ca4, fa4, ca5, fa5⟩ := cells6 A7.out.a
  obtain ⟨lb, cb, fb⟩ := cells1 A7.out.b
  obtain ⟨lc, cc, fc⟩ := cells1 A7.out.c
  go_wp2_with fail
  refine leaves_cons (f := 69) (args := #[.pointer (some ⟨w.heap.size, 0, none⟩), .pointer (some ⟨w.heap.size + 1, 0, none⟩), .pointer (some ⟨w.heap.size + 2, 0, none⟩)]) (by simp) (by simp [go_sem]) ?_
  refine (catchE_fail (w.heap.size) (w.heap.size + 1) (w.heap.size + 2) (.int .i64 0) (.int .i64 0) (.int .i64 0) (.string ⟨#[]⟩) (.bool false) (.slice none 0 0) 0 0 t.pos [] w7 ca0 fa0 ca1 fa1 ca2 fa2 ca3 fa3 ca4 fa4 ca5 fa5 cb fb cc fc (by omega) (by omega) (by omega)).mono ?_
  rintro e9 u9 w9 ⟨rfl, rfl, rfl⟩
  have AZ := Lib.hid ((((A7.out.setA (set6_gr w7 w.heap.size (.int .i64 0) (.int .i64 0) (.int .i64 0) (.string ⟨#[]⟩) (.bool false) (.slice none 0 0)) (set6_blk (.int .i64 0) (.int .i64 0) (.int .i64 0) (.string ⟨#[]⟩) (.bool false) (.slice none 0 0) A7.out.a)).setB t.pos).setC 3).keep (gr_below (below_box _ (.cells #[.int .i64 0, .int .i64 0, .int .i64 0, .string ⟨#[]⟩, .bool false, .slice none 0 0] 33)) none) (fun _ h => by cases h))
  obtain ⟨wz, HZ⟩ : ∃ q, Hid (q = ((((((((w7.setCell ⟨w.heap.size, 0, none⟩ (.int .i64 0)).setCell ⟨w.heap.size, 1, none⟩ (.int .i64 0)).setCell ⟨w.heap.size, 2, none⟩ (.int .i64 0)).setCell ⟨w.heap.size, 3, none⟩ (.string ⟨#[]⟩)).setCell ⟨w.heap.size, 4, none⟩ (.bool false)).setCell ⟨w.heap.size, 5, none⟩ (.slice none 0 0)).setCell ⟨w.heap.size + 1, 0, none⟩ (.int .i64 t.pos)).setCell ⟨w.heap.size + 2, 0, none⟩ (.int .i64 3)).alloc (.cells #[.int .i64 0, .int .i64 0, .int .i64 0, .string ⟨#[]⟩, .bool false, .slice none 0 0] 33)) := ⟨_, Lib.hid rfl⟩
  clear la ca0 fa0 ca1 fa1 ca2 fa2 ca3 fa3 ca4 fa4 ca5 fa5 lb cb fb lc cc fc
  have AZ2 : Hid (ABC w #[.int .i64 0, .int .i64 0, .int .i64 0, .string ⟨#[]⟩, .bool false, .slice none 0 0] 33 t.pos 3 wz) := by rw [HZ.out]; exact AZ
  rw [← HZ.out]
  clear HZ AZ
  obtain ⟨la, ca0, fa0, ca1, fa1, ca2, fa2, ca3, fa3, ca4, fa4, ca5, fa5⟩ := cells6 AZ2.out.a
  obtain ⟨lb, cb, fb⟩ := cells1 AZ2.out.b
  obtain ⟨lc, cc, fc⟩ := cells1 AZ2.out.c
  exact ⟨.tuple #[.agg #[.int .i64 0, .int .i64 0, .int .i64 0, .string ⟨#[]⟩, .bool false, .slice none 0 0], .int .i64 t.pos, .int .i64 3], by simp [results, Tryz.results32, go_sem, *], AZ2.out.below, .inr ⟨k1, t, .bad hev_, by omega, ht_, rfl⟩⟩
end Go.Proofs.YtdckddkalgnlpaaGreatDoor
