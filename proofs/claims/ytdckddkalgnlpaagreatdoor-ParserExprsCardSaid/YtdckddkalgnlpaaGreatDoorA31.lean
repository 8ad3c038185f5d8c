/-
  The parser's run, walked: the source cannot be scanned.
-/
import Derived.Test.YtdckddkalgnlpaaGreatDoorA29
namespace Go.Proofs.YtdckddkalgnlpaaGreatDoor
open Go.RowKit Go.Maps Pw
set_option maxRecDepth 100000 in
set_option maxHeartbeats 8000000 in
theorem runP_bad (s : ByteArray) (w : World) (hE : LexEnv w) (hs : s.size ≤ 9223372036854775800) (a er : Nat) (hsc : Lex.scan s.data.toList = .bad a er) (hpos0 : 0 < er) :
 Calls Tryz.prog 24 #[.string s, .func (.func 25) #[] #[]] w fun e w' => e = .returned (.tuple #[.agg #[.slice none 0 0], .int .i64 a, .int .i64 er]) ∧ Below w.heap.size w w' := by
 have hpos : 0 < er := hpos0
 have hne : ((er : Int) != 0) = true := by rw [bne_iff_ne]; omega
 have HSC := Lib.hid hsc
 clear hsc hpos0
 obtain ⟨w3, HW, A3⟩ := ABC.start w #[.slice none 0 0] 25
 have HE := Lib.hid (hE.keep A3.out.below)
 have hmf := mkFunc
 clear hE
 go_enter_defers Tryz.func24, Tryz.ntmps24
 go_upto_region 1 with fail
 rw [← HW.out]
 clear HW
 obtain ⟨la, ca0, fa0⟩ := cells1 A3.out.a
 obtain ⟨lb, cb, fb⟩ := cells1 A3.out.b
 obtain ⟨lc, cc, fc⟩ := cells1 A3.out.c
 go_wp2_with fail
 clear la ca0 fa0 lb cb fb lc cc fc
 refine (scan_bad s a er w3 HE.out hs HSC.out).mono ?_
 rintro e w4 ⟨rfl, hb4⟩
 have A4 := Lib.hid (A3.out.keep (gr_below hb4 none) (fun _ h => by cases h))
 clear A3 hb4
 obtain ⟨la, ca0, fa0⟩ := cells1 A4.out.a
 obtain ⟨lb, cb, fb⟩ := cells1 A4.out.b
 obtain ⟨lc, cc, fc⟩ := cells1 A4.out.c
 obtain ⟨w5, HW⟩ : ∃ q, Hid (q = (w4.setCell ⟨w.heap.size + 1, 0, none⟩ (.int .i64 a)).setCell ⟨w.heap.size + 2, 0, none⟩ (.int .i64 er)) := ⟨_, Lib.hid rfl⟩
 have A5 := Lib.hid ((A4.out.setB a).setC er)
 rw [← HW.out] at A5
 go_upto_region 2 with fail
 rw [← HW.out]
 clear la ca0 fa0 lb cb fb lc cc fc
 clear HW A4
 obtain ⟨la, ca0, fa0⟩ := cells1 A5.out.a
 obtain ⟨lb, cb, fb⟩ := cells1 A5.out.b
 obtain ⟨lc, cc, fc⟩ := cells1 A5.out.c
 go_upto_region 3 with fail
 clear la ca0 fa0 lb cb fb lc cc fc
 obtain ⟨w6, HW⟩ : ∃ q, Hid (q = w5.drew) := ⟨_, Lib.hid rfl⟩
 have A6 := Lib.hid (A5.out.keep (W' := w5.drew) (gr_drew (gr_refl _ none)) (fun _ h => by cases h))
 rw [← HW.out] at A6
 refine wp_region_held_drew (S := fun W => W = w6) (by kernel_rfl) HW.out.symm (fun _ => ?_)
 rw [← HW.out]
 clear HW A5
 obtain ⟨la, ca0, fa0⟩ := cells1 A6.out.a
 obtain ⟨lb, cb, fb⟩ := cells1 A6.out.b
 obtain ⟨lc, cc, fc⟩ := cells1 A6.out.c
 refine rR3 0 (some 17) 1 (some 18) 2 (some 19) (fun K hK => ?_) (fun K hK => ?_) (fun K hK => ?_)
 ·go_simp
  refine hK.out _ _ rfl (fun _ => ?_)
  clear hK K
  try simp only [Act.put, q0, q1, q2]
  refine rR3 1 (some 18) 2 (some 19) 3 none (fun K hK => ?_) (fun K hK => ?_) (fun K hK => ?_)
  ·go_simp
   refine hK.out _ _ rfl (fun _ => ?_)
   clear hK K
   try simp only [Act.put, q0, q1, q2]
   refine rR2 2 (some 19) 3 none (fun K hK => ?_) (fun K hK => ?_)
   ·go_simp
    refine hK.out _ _ rfl (fun _ => ?_)
    clear hK K
    try simp only [Act.put, q0, q1, q2]
    refine rR1 3 none (fun K hK => ?_)
    go_simp
    rw [set_same A6.out.a (j := 0) (v := .slice none 0 0) rfl]
    refine hK.out _ _ rfl (fun _ => ?_)
    clear hK K
    try simp only [Act.put, q0, q1, q2]
    refine rR1 4 none (fun K hK => ?_)
    go_simp
    rw [set_same A6.out.b (j := 0) (v := .int .i64 a) rfl]
    refine hK.out _ _ rfl (fun _ => ?_)
    clear hK K
    try simp only [Act.put, q0, q1, q2]
    refine rR1 5 none (fun K hK => ?_)
    go_simp
    rw [set_same A6.out.c (j := 0) (v := .int .i64 er) rfl]
    refine hK.out _ _ rfl (fun _ => ?_)
    clear hK K
    try simp only [Act.put, q0, q1, q2]
    refine wpAnyH_done (by kernel_rfl) ?_ _
    go_wp2_with fail
    exact ⟨.tuple #[.agg #[.slice none 0 0], .int .i64 a, .int .i64 er], by simp [results, Tryz.results24, go_sem, *], rfl, A6.out.below⟩
   ·go_simp
    rw [set_same A6.out.a (j := 0) (v := .slice none 0 0) rfl]
    refine hK.out _ _ rfl (fun _ => ?_)
    clear hK K
    try simp only [Act.put, q0, q1, q2]
    refine rR2 2 (some 19) 4 none (fun K hK => ?_) (fun K hK => ?_)
    ·go_simp
     refine hK.out _ _ rfl (fun _ => ?_)
     clear hK K
     try simp only [Act.put, q0, q1, q2]
     refine rR1 4 none (fun K hK => ?_)
     go_simp
     rw [set_same A6.out.b (j := 0) (v := .int .i64 a) rfl]
     refine hK.out _ _ rfl (fun _ => ?_)
     clear hK K
     try simp only [Act.put, q0, q1, q2]
     refine rR1 5 none (fun K hK => ?_)
     go_simp
     rw [set_same A6.out.c (j := 0) (v := .int .i64 er) rfl]
     refine hK.out _ _ rfl (fun _ => ?_)
     clear hK K
     try simp only [Act.put, q0, q1, q2]
     refine wpAnyH_done (by kernel_rfl) ?_ _
     go_wp2_with fail
     exact ⟨.tuple #[.agg #[.slice none 0 0], .int .i64 a, .int .i64 er], by simp [results, Tryz.results24, go_sem, *], rfl, A6.out.below⟩
    ·go_simp
     rw [set_same A6.out.b (j := 0) (v := .int .i64 a) rfl]
     refine hK.out _ _ rfl (fun _ => ?_)
     clear hK K
     try simp only [Act.put, q0, q1, q2]
     refine rR1 2 (some 19) (fun K hK => ?_)
     go_simp
     refine hK.out _ _ rfl (fun _ => ?_)
     clear hK K
     try simp only [Act.put, q0, q1, q2]
     refine rR1 5 none (fun K hK => ?_)
     go_simp
     rw [set_same A6.out.c (j := 0) (v := .int .i64 er) rfl]
     refine hK.out _ _ rfl (fun _ => ?_)
     clear hK K
     try simp only [Act.put, q0, q1, q2]
     refine wpAnyH_done (by kernel_rfl) ?_ _
     go_wp2_with fail
     exact ⟨.tuple #[.agg #[.slice none 0 0], .int .i64 a, .int .i64 er], by simp [results, Tryz.results24, go_sem, *], rfl, A6.out.below⟩
  ·go_simp
   refine hK.out _ _ rfl (fun _ => ?_)
   clear hK K
   try simp only [Act.put, q0, q1, q2]
   refine rR2 1 (some 18) 3 none (fun K hK => ?_) (fun K hK => ?_)
   ·go_simp
    refine hK.out _ _ rfl (fun _ => ?_)
    clear hK K
    try simp only [Act.put, q0, q1, q2]
    refine rR1 3 none (fun K hK => ?_)
    go_simp
    rw [set_same A6.out.a (j := 0) (v := .slice none 0 0) rfl]
    refine hK.out _ _ rfl (fun _ => ?_)
    clear hK K
    try simp only [Act.put, q0, q1, q2]
    refine rR1 4 none (fun K hK => ?_)
    go_simp
    rw [set_same A6.out.b (j := 0) (v := .int .i64 a) rfl]
    refine hK.out _ _ rfl (fun _ => ?_)
    clear hK K
    try simp only [Act.put, q0, q1, q2]
    refine rR1 5 none (fun K hK => ?_)
    go_simp
    rw [set_same A6.out.c (j := 0) (v := .int .i64 er) rfl]
    refine hK.out _ _ rfl (fun _ => ?_)
    clear hK K
    try simp only [Act.put, q0, q1, q2]
    refine wpAnyH_done (by kernel_rfl) ?_ _
    go_wp2_with fail
    exact ⟨.tuple #[.agg #[.slice none 0 0], .int .i64 a, .int .i64 er], by simp [results, Tryz.results24, go_sem, *], rfl, A6.out.below⟩
   ·go_simp
    rw [set_same A6.out.a (j := 0) (v := .slice none 0 0) rfl]
    refine hK.out _ _ rfl (fun _ => ?_)
    clear hK K
    try simp only [Act.put, q0, q1, q2]
    refine rR1 1 (some 18) (fun K hK => ?_)
    go_simp
    refine hK.out _ _ rfl (fun _ => ?_)
    clear hK K
    try simp only [Act.put, q0, q1, q2]
    refine rR1 4 none (fun K hK => ?_)
    go_simp
    rw [set_same A6.out.b (j := 0) (v := .int .i64 a) rfl]
    refine hK.out _ _ rfl (fun _ => ?_)
    clear hK K
    try simp only [Act.put, q0, q1, q2]
    refine rR1 5 none (fun K hK => ?_)
    go_simp
    rw [set_same A6.out.c (j := 0) (v := .int .i64 er) rfl]
    refine hK.out _ _ rfl (fun _ => ?_)
    clear hK K
    try simp only [Act.put, q0, q1, q2]
    refine wpAnyH_done (by kernel_rfl) ?_ _
    go_wp2_with fail
    exact ⟨.tuple #[.agg #[.slice none 0 0], .int .i64 a, .int .i64 er], by simp [results, Tryz.results24, go_sem, *], rfl, A6.out.below⟩
  ·go_simp
   rw [set_same A6.out.a (j := 0) (v := .slice none 0 0) rfl]
   refine hK.out _ _ rfl (fun _ => ?_)
   clear hK K
   try simp only [Act.put, q0, q1, q2]
   refine rR2 1 (some 18) 2 (some 19) (fun K hK => ?_) (fun K hK => ?_)
   ·go_simp
    refine hK.out _ _ rfl (fun _ => ?_)
    clear hK K
    try simp only [Act.put, q0, q1, q2]
    refine rR2 2 (some 19) 4 none (fun K hK => ?_) (fun K hK => ?_)
    ·go_simp
     refine hK.out _ _ rfl (fun _ => ?_)
     clear hK K
     try simp only [Act.put, q0, q1, q2]
     refine rR1 4 none (fun K hK => ?_)
     go_simp
     rw [set_same A6.out.b (j := 0) (v := .int .i64 a) rfl]
     refine hK.out _ _ rfl (fun _ => ?_)
     clear hK K
     try simp only [Act.put, q0, q1, q2]
     refine rR1 5 none (fun K hK => ?_)
     go_simp
     rw [set_same A6.out.c (j := 0) (v := .int .i64 er) rfl]
     refine hK.out _ _ rfl (fun _ => ?_)
     clear hK K
     try simp only [Act.put, q0, q1, q2]
     refine wpAnyH_done (by kernel_rfl) ?_ _
     go_wp2_with fail
     exact ⟨.tuple #[.agg #[.slice none 0 0], .int .i64 a, .int .i64 er], by simp [results, Tryz.results24, go_sem, *], rfl, A6.out.below⟩
    ·go_simp
     rw [set_same A6.out.b (j := 0) (v := .int .i64 a) rfl]
     refine hK.out _ _ rfl (fun _ => ?_)
     clear hK K
     try simp only [Act.put, q0, q1, q2]
     refine rR1 2 (some 19) (fun K hK => ?_)
     go_simp
     refine hK.out _ _ rfl (fun _ => ?_)
     clear hK K
     try simp only [Act.put, q0, q1, q2]
     refine rR1 5 none (fun K hK => ?_)
     go_simp
     rw [set_same A6.out.c (j := 0) (v := .int .i64 er) rfl]
     refine hK.out _ _ rfl (fun _ => ?_)
     clear hK K
     try simp only [Act.put, q0, q1, q2]
     refine wpAnyH_done (by kernel_rfl) ?_ _
     go_wp2_with fail
     exact ⟨.tuple #[.agg #[.slice none 0 0], .int .i64 a, .int .i64 er], by simp [results, Tryz.results24, go_sem, *], rfl, A6.out.below⟩
   ·go_simp
    refine hK.out _ _ rfl (fun _ => ?_)
    clear hK K
    try simp only [Act.put, q0, q1, q2]
    refine rR1 1 (some 18) (fun K hK => ?_)
    go_simp
    refine hK.out _ _ rfl (fun _ => ?_)
    clear hK K
    try simp only [Act.put, q0, q1, q2]
    refine rR1 4 none (fun K hK => ?_)
    go_simp
    rw [set_same A6.out.b (j := 0) (v := .int .i64 a) rfl]
    refine hK.out _ _ rfl (fun _ => ?_)
    clear hK K
    try simp only [Act.put, q0, q1, q2]
    refine rR1 5 none (fun K hK => ?_)
    go_simp
    rw [set_same A6.out.c (j := 0) (v := .int .i64 er) rfl]
    refine hK.out _ _ rfl (fun _ => ?_)
    clear hK K
    try simp only [Act.put, q0, q1, q2]
    refine wpAnyH_done (by kernel_rfl) ?_ _
    go_wp2_with fail
    exact ⟨.tuple #[.agg #[.slice none 0 0], .int .i64 a, .int .i64 er], by simp [results, Tryz.results24, go_sem, *], rfl, A6.out.below⟩
 ·go_simp
  refine hK.out _ _ rfl (fun _ => ?_)
  clear hK K
  try simp only [Act.put, q0, q1, q2]
  refine rR2 0 (some 17) 2 (some 19) (fun K hK => ?_) (fun K hK => ?_)
  ·go_simp
   refine hK.out _ _ rfl (fun _ => ?_)
   clear hK K
   try simp only [Act.put, q0, q1, q2]
   refine rR2 2 (some 19) 3 none (fun K hK => ?_) (fun K hK => ?_)
   ·go_simp
    refine hK.out _ _ rfl (fun _ => ?_)
    clear hK K
    try simp only [Act.put, q0, q1, q2]
    refine rR1 3 none (fun K hK => ?_)
    go_simp
    rw [set_same A6.out.a (j := 0) (v := .slice none 0 0) rfl]
    refine hK.out _ _ rfl (fun _ => ?_)
    clear hK K
    try simp only [Act.put, q0, q1, q2]
    refine rR1 4 none (fun K hK => ?_)
    go_simp
    rw [set_same A6.out.b (j := 0) (v := .int .i64 a) rfl]
    refine hK.out _ _ rfl (fun _ => ?_)
    clear hK K
    try simp only [Act.put, q0, q1, q2]
    refine rR1 5 none (fun K hK => ?_)
    go_simp
    rw [set_same A6.out.c (j := 0) (v := .int .i64 er) rfl]
    refine hK.out _ _ rfl (fun _ => ?_)
    clear hK K
    try simp only [Act.put, q0, q1, q2]
    refine wpAnyH_done (by kernel_rfl) ?_ _
    go_wp2_with fail
    exact ⟨.tuple #[.agg #[.slice none 0 0], .int .i64 a, .int .i64 er], by simp [results, Tryz.results24, go_sem, *], rfl, A6.out.below⟩
   ·go_simp
    rw [set_same A6.out.a (j := 0) (v := .slice none 0 0) rfl]
    refine hK.out _ _ rfl (fun _ => ?_)
    clear hK K
    try simp only [Act.put, q0, q1, q2]
    refine rR2 2 (some 19) 4 none (fun K hK => ?_) (fun K hK => ?_)
    ·go_simp
     refine hK.out _ _ rfl (fun _ => ?_)
     clear hK K
     try simp only [Act.put, q0, q1, q2]
     refine rR1 4 none (fun K hK => ?_)
     go_simp
     rw [set_same A6.out.b (j := 0) (v := .int .i64 a) rfl]
     refine hK.out _ _ rfl (fun _ => ?_)
     clear hK K
     try simp only [Act.put, q0, q1, q2]
     refine rR1 5 none (fun K hK => ?_)
     go_simp
     rw [set_same A6.out.c (j := 0) (v := .int .i64 er) rfl]
     refine hK.out _ _ rfl (fun _ => ?_)
     clear hK K
     try simp only [Act.put, q0, q1, q2]
     refine wpAnyH_done (by kernel_rfl) ?_ _
     go_wp2_with fail
     exact ⟨.tuple #[.agg #[.slice none 0 0], .int .i64 a, .int .i64 er], by simp [results, Tryz.results24, go_sem, *], rfl, A6.out.below⟩
    ·go_simp
     rw [set_same A6.out.b (j := 0) (v := .int .i64 a) rfl]
     refine hK.out _ _ rfl (fun _ => ?_)
     clear hK K
     try simp only [Act.put, q0, q1, q2]
     refine rR1 2 (some 19) (fun K hK => ?_)
     go_simp
     refine hK.out _ _ rfl (fun _ => ?_)
     clear hK K
     try simp only [Act.put, q0, q1, q2]
     refine rR1 5 none (fun K hK => ?_)
     go_simp
     rw [set_same A6.out.c (j := 0) (v := .int .i64 er) rfl]
     refine hK.out _ _ rfl (fun _ => ?_)
     clear hK K
     try simp only [Act.put, q0, q1, q2]
     refine wpAnyH_done (by kernel_rfl) ?_ _
     go_wp2_with fail
     exact ⟨.tuple #[.agg #[.slice none 0 0], .int .i64 a, .int .i64 er], by simp [results, Tryz.results24, go_sem, *], rfl, A6.out.below⟩
  ·go_simp
   refine hK.out _ _ rfl (fun _ => ?_)
   clear hK K
   try simp only [Act.put, q0, q1, q2]
   refine rR1 0 (some 17) (fun K hK => ?_)
   go_simp
   refine hK.out _ _ rfl (fun _ => ?_)
   clear hK K
   try simp only [Act.put, q0, q1, q2]
   refine rR1 3 none (fun K hK => ?_)
   go_simp
   rw [set_same A6.out.a (j := 0) (v := .slice none 0 0) rfl]
   refine hK.out _ _ rfl (fun _ => ?_)
   clear hK K
   try simp only [Act.put, q0, q1, q2]
   refine rR1 4 none (fun K hK => ?_)
   go_simp
   rw [set_same A6.out.b (j := 0) (v := .int .i64 a) rfl]
   refine hK.out _ _ rfl (fun _ => ?_)
   clear hK K
   try simp only [Act.put, q0, q1, q2]
   refine rR1 5 none (fun K hK => ?_)
   go_simp
   rw [set_same A6.out.c (j := 0) (v := .int .i64 er) rfl]
   refine hK.out _ _ rfl (fun _ => ?_)
   clear hK K
   try simp only [Act.put, q0, q1, q2]
   refine wpAnyH_done (by kernel_rfl) ?_ _
   go_wp2_with fail
   exact ⟨.tuple #[.agg #[.slice none 0 0], .int .i64 a, .int .i64 er], by simp [results, Tryz.results24, go_sem, *], rfl, A6.out.below⟩
 ·go_simp
  refine hK.out _ _ rfl (fun _ => ?_)
  clear hK K
  try simp only [Act.put, q0, q1, q2]
  refine rR2 0 (some 17) 1 (some 18) (fun K hK => ?_) (fun K hK => ?_)
  ·go_simp
   refine hK.out _ _ rfl (fun _ => ?_)
   clear hK K
   try simp only [Act.put, q0, q1, q2]
   refine rR2 1 (some 18) 3 none (fun K hK => ?_) (fun K hK => ?_)
   ·go_simp
    refine hK.out _ _ rfl (fun _ => ?_)
    clear hK K
    try simp only [Act.put, q0, q1, q2]
    refine rR1 3 none (fun K hK => ?_)
    go_simp
    rw [set_same A6.out.a (j := 0) (v := .slice none 0 0) rfl]
    refine hK.out _ _ rfl (fun _ => ?_)
    clear hK K
    try simp only [Act.put, q0, q1, q2]
    refine rR1 4 none (fun K hK => ?_)
    go_simp
    rw [set_same A6.out.b (j := 0) (v := .int .i64 a) rfl]
    refine hK.out _ _ rfl (fun _ => ?_)
    clear hK K
    try simp only [Act.put, q0, q1, q2]
    refine rR1 5 none (fun K hK => ?_)
    go_simp
    rw [set_same A6.out.c (j := 0) (v := .int .i64 er) rfl]
    refine hK.out _ _ rfl (fun _ => ?_)
    clear hK K
    try simp only [Act.put, q0, q1, q2]
    refine wpAnyH_done (by kernel_rfl) ?_ _
    go_wp2_with fail
    exact ⟨.tuple #[.agg #[.slice none 0 0], .int .i64 a, .int .i64 er], by simp [results, Tryz.results24, go_sem, *], rfl, A6.out.below⟩
   ·go_simp
    rw [set_same A6.out.a (j := 0) (v := .slice none 0 0) rfl]
    refine hK.out _ _ rfl (fun _ => ?_)
    clear hK K
    try simp only [Act.put, q0, q1, q2]
    refine rR1 1 (some 18) (fun K hK => ?_)
    go_simp
    refine hK.out _ _ rfl (fun _ => ?_)
    clear hK K
    try simp only [Act.put, q0, q1, q2]
    refine rR1 4 none (fun K hK => ?_)
    go_simp
    rw [set_same A6.out.b (j := 0) (v := .int .i64 a) rfl]
    refine hK.out _ _ rfl (fun _ => ?_)
    clear hK K
    try simp only [Act.put, q0, q1, q2]
    refine rR1 5 none (fun K hK => ?_)
    go_simp
    rw [set_same A6.out.c (j := 0) (v := .int .i64 er) rfl]
    refine hK.out _ _ rfl (fun _ => ?_)
    clear hK K
    try simp only [Act.put, q0, q1, q2]
    refine wpAnyH_done (by kernel_rfl) ?_ _
    go_wp2_with fail
    exact ⟨.tuple #[.agg #[.slice none 0 0], .int .i64 a, .int .i64 er], by simp [results, Tryz.results24, go_sem, *], rfl, A6.out.below⟩
  ·go_simp
   refine hK.out _ _ rfl (fun _ => ?_)
   clear hK K
   try simp only [Act.put, q0, q1, q2]
   refine rR1 0 (some 17) (fun K hK => ?_)
   go_simp
   refine hK.out _ _ rfl (fun _ => ?_)
   clear hK K
   try simp only [Act.put, q0, q1, q2]
   refine rR1 3 none (fun K hK => ?_)
   go_simp
   rw [set_same A6.out.a (j := 0) (v := .slice none 0 0) rfl]
   refine hK.out _ _ rfl (fun _ => ?_)
   clear hK K
   try simp only [Act.put, q0, q1, q2]
   refine rR1 4 none (fun K hK => ?_)
   go_simp
   rw [set_same A6.out.b (j := 0) (v := .int .i64 a) rfl]
   refine hK.out _ _ rfl (fun _ => ?_)
   clear hK K
   try simp only [Act.put, q0, q1, q2]
   refine rR1 5 none (fun K hK => ?_)
   go_simp
   rw [set_same A6.out.c (j := 0) (v := .int .i64 er) rfl]
   refine hK.out _ _ rfl (fun _ => ?_)
   clear hK K
   try simp only [Act.put, q0, q1, q2]
   refine wpAnyH_done (by kernel_rfl) ?_ _
   go_wp2_with fail
   exact ⟨.tuple #[.agg #[.slice none 0 0], .int .i64 a, .int .i64 er], by simp [results, Tryz.results24, go_sem, *], rfl, A6.out.below⟩
set_option maxRecDepth 100000 in
set_option maxHeartbeats 8000000 in
theorem runE_bad (s : ByteArray) (w : World) (hE : LexEnv w) (hs : s.size ≤ 9223372036854775800) (a er : Nat) (hsc : Lex.scan s.data.toList = .bad a er) (hpos0 : 0 < er) :
 Calls Tryz.prog 32 #[.string s, .func (.func 33) #[] #[]] w fun e w' => e = .returned (.tuple #[.agg #[.int .i64 0, .int .i64 0, .int .i64 0, .string ⟨#[]⟩, .bool false, .slice none 0 0], .int .i64 a, .int .i64 er]) ∧ Below w.heap.size w w' := by
 have hpos : 0 < er := hpos0
 have hne : ((er : Int) != 0) = true := by rw [bne_iff_ne]; omega
 have HSC := Lib.hid hsc
 clear hsc hpos0
 obtain ⟨w3, HW, A3⟩ := ABC.start w #[.int .i64 0, .int .i64 0, .int .i64 0, .string ⟨#[]⟩, .bool false, .slice none 0 0] 33
 have HE := Lib.hid (hE.keep A3.out.below)
 have hmf := mkFunc
 clear hE
 go_enter_defers Tryz.func32, Tryz.ntmps32
 go_upto_region 1 with fail
 rw [← HW.out]
 clear HW
 obtain ⟨la, ca0, fa0, ca1, fa1, ca2, fa2, ca3, fa3, ca4, fa4, ca5, fa5⟩ := cells6 A3.out.a
 obtain ⟨lb, cb, fb⟩ := cells1 A3.out.b
 obtain ⟨lc, cc, fc⟩ := cells1 A3.out.c
 go_wp2_with fail
 clear la ca0 fa0 ca1 fa1 ca2 fa2 ca3 fa3 ca4 fa4 ca5 fa5 lb cb fb lc cc fc
 refine (scan_bad s a er w3 HE.out hs HSC.out).mono ?_
 rintro e w4 ⟨rfl, hb4⟩
 have A4 := Lib.hid (A3.out.keep (gr_below hb4 none) (fun _ h => by cases h))
 clear A3 hb4
 obtain ⟨la, ca0, fa0, ca1, fa1, ca2, fa2, ca3, fa3, ca4, fa4, ca5, fa5⟩ := cells6 A4.out.a
 obtain ⟨lb, cb, fb⟩ := cells1 A4.out.b
 obtain ⟨lc, cc, fc⟩ := cells1 A4.out.c
 obtain ⟨w5, HW⟩ : ∃ q, Hid (q = (w4.setCell ⟨w.heap.size + 1, 0, none⟩ (.int .i64 a)).setCell ⟨w.heap.size + 2, 0, none⟩ (.int .i64 er)) := ⟨_, Lib.hid rfl⟩
 have A5 := Lib.hid ((A4.out.setB a).setC er)
 rw [← HW.out] at A5
 go_upto_region 2 with fail
 rw [← HW.out]
 clear la ca0 fa0 ca1 fa1 ca2 fa2 ca3 fa3 ca4 fa4 ca5 fa5 lb cb fb lc cc fc
 clear HW A4
 obtain ⟨la, ca0, fa0, ca1, fa1, ca2, fa2, ca3, fa3, ca4, fa4, ca5, fa5⟩ := cells6 A5.out.a
 obtain ⟨lb, cb, fb⟩ := cells1 A5.out.b
 obtain ⟨lc, cc, fc⟩ := cells1 A5.out.c
 go_upto_region 3 with fail
 clear la ca0 fa0 ca1 fa1 ca2 fa2 ca3 fa3 ca4 fa4 ca5 fa5 lb cb fb lc cc fc
 obtain ⟨w6, HW⟩ : ∃ q, Hid (q = w5.drew) := ⟨_, Lib.hid rfl⟩
 have A6 := Lib.hid (A5.out.keep (W' := w5.drew) (gr_drew (gr_refl _ none)) (fun _ h => by cases h))
 rw [← HW.out] at A6
 refine wp_region_held_drew (S := fun W => W = w6) (by kernel_rfl) HW.out.symm (fun _ => ?_)
 rw [← HW.out]
 clear HW A5
 obtain ⟨la, ca0, fa0, ca1, fa1, ca2, fa2, ca3, fa3, ca4, fa4, ca5, fa5⟩ := cells6 A6.out.a
 obtain ⟨lb, cb, fb⟩ := cells1 A6.out.b
 obtain ⟨lc, cc, fc⟩ := cells1 A6.out.c
 refine rR3 0 (some 17) 1 (some 18) 2 (some 19) (fun K hK => ?_) (fun K hK => ?_) (fun K hK => ?_)
 ·go_simp
  refine hK.out _ _ rfl (fun _ => ?_)
  clear hK K
  try simp only [Act.put, q0, q1, q2]
  refine rR3 1 (some 18) 2 (some 19) 3 none (fun K hK => ?_) (fun K hK => ?_) (fun K hK => ?_)
  ·go_simp
   refine hK.out _ _ rfl (fun _ => ?_)
   clear hK K
   try simp only [Act.put, q0, q1, q2]
   refine rR2 2 (some 19) 3 none (fun K hK => ?_) (fun K hK => ?_)
   ·go_simp
    refine hK.out _ _ rfl (fun _ => ?_)
    clear hK K
    try simp only [Act.put, q0, q1, q2]
    refine rR1 3 none (fun K hK => ?_)
    go_simp
    rw [set_same A6.out.a (j := 0) (v := .int .i64 0) rfl, set_same A6.out.a (j := 1) (v := .int .i64 0) rfl, set_same A6.out.a (j := 2) (v := .int .i64 0) rfl, set_same A6.out.a (j := 3) (v := .string ⟨#[]⟩) rfl, set_same A6.out.a (j := 4) (v := .bool false) rfl, set_same A6.out.a (j := 5) (v := .slice none 0 0) rfl]
    refine hK.out _ _ rfl (fun _ => ?_)
    clear hK K
    try simp only [Act.put, q0, q1, q2]
    refine rR1 4 none (fun K hK => ?_)
    go_simp
    rw [set_same A6.out.b (j := 0) (v := .int .i64 a) rfl]
    refine hK.out _ _ rfl (fun _ => ?_)
    clear hK K
    try simp only [Act.put, q0, q1, q2]
    refine rR1 5 none (fun K hK => ?_)
    go_simp
    rw [set_same A6.out.c (j := 0) (v := .int .i64 er) rfl]
    refine hK.out _ _ rfl (fun _ => ?_)
    clear hK K
    try simp only [Act.put, q0, q1, q2]
    refine wpAnyH_done (by kernel_rfl) ?_ _
    go_wp2_with fail
    exact ⟨.tuple #[.agg #[.int .i64 0, .int .i64 0, .int .i64 0, .string ⟨#[]⟩, .bool false, .slice none 0 0], .int .i64 a, .int .i64 er], by simp [results, Tryz.results32, go_sem, *], rfl, A6.out.below⟩
   ·go_simp
    rw [set_same A6.out.a (j := 0) (v := .int .i64 0) rfl, set_same A6.out.a (j := 1) (v := .int .i64 0) rfl, set_same A6.out.a (j := 2) (v := .int .i64 0) rfl, set_same A6.out.a (j := 3) (v := .string ⟨#[]⟩) rfl, set_same A6.out.a (j := 4) (v := .bool false) rfl, set_same A6.out.a (j := 5) (v := .slice none 0 0) rfl]
    refine hK.out _ _ rfl (fun _ => ?_)
    clear hK K
    try simp only [Act.put, q0, q1, q2]
    refine rR2 2 (some 19) 4 none (fun K hK => ?_) (fun K hK => ?_)
    ·go_simp
     refine hK.out _ _ rfl (fun _ => ?_)
     clear hK K
     try simp only [Act.put, q0, q1, q2]
     refine rR1 4 none (fun K hK => ?_)
     go_simp
     rw [set_same A6.out.b (j := 0) (v := .int .i64 a) rfl]
     refine hK.out _ _ rfl (fun _ => ?_)
     clear hK K
     try simp only [Act.put, q0, q1, q2]
     refine rR1 5 none (fun K hK => ?_)
     go_simp
     rw [set_same A6.out.c (j := 0) (v := .int .i64 er) rfl]
     refine hK.out _ _ rfl (fun _ => ?_)
     clear hK K
     try simp only [Act.put, q0, q1, q2]
     refine wpAnyH_done (by kernel_rfl) ?_ _
     go_wp2_with fail
     exact ⟨.tuple #[.agg #[.int .i64 0, .int .i64 0, .int .i64 0, .string ⟨#[]⟩, .bool false, .slice none 0 0], .int .i64 a, .int .i64 er], by simp [results, Tryz.results32, go_sem, *], rfl, A6.out.below⟩
    ·go_simp
     rw [set_same A6.out.b (j := 0) (v := .int .i64 a) rfl]
     refine hK.out _ _ rfl (fun _ => ?_)
     clear hK K
     try simp only [Act.put, q0, q1, q2]
     refine rR1 2 (some 19) (fun K hK => ?_)
     go_simp
     refine hK.out _ _ rfl (fun _ => ?_)
     clear hK K
     try simp only [Act.put, q0, q1, q2]
     refine rR1 5 none (fun K hK => ?_)
     go_simp
     rw [set_same A6.out.c (j := 0) (v := .int .i64 er) rfl]
     refine hK.out _ _ rfl (fun _ => ?_)
     clear hK K
     try simp only [Act.put, q0, q1, q2]
     refine wpAnyH_done (by kernel_rfl) ?_ _
     go_wp2_with fail
     exact ⟨.tuple #[.agg #[.int .i64 0, .int .i64 0, .int .i64 0, .string ⟨#[]⟩, .bool false, .slice none 0 0], .int .i64 a, .int .i64 er], by simp [results, Tryz.results32, go_sem, *], rfl, A6.out.below⟩
  ·go_simp
   refine hK.out _ _ rfl (fun _ => ?_)
   clear hK K
   try simp only [Act.put, q0, q1, q2]
   refine rR2 1 (some 18) 3 none (fun K hK => ?_) (fun K hK => ?_)
   ·go_simp
    refine hK.out _ _ rfl (fun _ => ?_)
    clear hK K
    try simp only [Act.put, q0, q1, q2]
    refine rR1 3 none (fun K hK => ?_)
    go_simp
    rw [set_same A6.out.a (j := 0) (v := .int .i64 0) rfl, set_same A6.out.a (j := 1) (v := .int .i64 0) rfl, set_same A6.out.a (j := 2) (v := .int .i64 0) rfl, set_same A6.out.a (j := 3) (v := .string ⟨#[]⟩) rfl, set_same A6.out.a (j := 4) (v := .bool false) rfl, set_same A6.out.a (j := 5) (v := .slice none 0 0) rfl]
    refine hK.out _ _ rfl (fun _ => ?_)
    clear hK K
    try simp only [Act.put, q0, q1, q2]
    refine rR1 4 none (fun K hK => ?_)
    go_simp
    rw [set_same A6.out.b (j := 0) (v := .int .i64 a) rfl]
    refine hK.out _ _ rfl (fun _ => ?_)
    clear hK K
    try simp only [Act.put, q0, q1, q2]
    refine rR1 5 none (fun K hK => ?_)
    go_simp
    rw [set_same A6.out.c (j := 0) (v := .int .i64 er) rfl]
    refine hK.out _ _ rfl (fun _ => ?_)
    clear hK K
    try simp only [Act.put, q0, q1, q2]
    refine wpAnyH_done (by kernel_rfl) ?_ _
    go_wp2_with fail
    exact ⟨.tuple #[.agg #[.int .i64 0, .int .i64 0, .int .i64 0, .string ⟨#[]⟩, .bool false, .slice none 0 0], .int .i64 a, .int .i64 er], by simp [results, Tryz.results32, go_sem, *], rfl, A6.out.below⟩
   ·go_simp
    rw [set_same A6.out.a (j := 0) (v := .int .i64 0) rfl, set_same A6.out.a (j := 1) (v := .int .i64 0) rfl, set_same A6.out.a (j := 2) (v := .int .i64 0) rfl, set_same A6.out.a (j := 3) (v := .string ⟨#[]⟩) rfl, set_same A6.out.a (j := 4) (v := .bool false) rfl, set_same A6.out.a (j := 5) (v := .slice none 0 0) rfl]
    refine hK.out _ _ rfl (fun _ => ?_)
    clear hK K
    try simp only [Act.put, q0, q1, q2]
    refine rR1 1 (some 18) (fun K hK => ?_)
    go_simp
    refine hK.out _ _ rfl (fun _ => ?_)
    clear hK K
    try simp only [Act.put, q0, q1, q2]
    refine rR1 4 none (fun K hK => ?_)
    go_simp
    rw [set_same A6.out.b (j := 0) (v := .int .i64 a) rfl]
    refine hK.out _ _ rfl (fun _ => ?_)
    clear hK K
    try simp only [Act.put, q0, q1, q2]
    refine rR1 5 none (fun K hK => ?_)
    go_simp
    rw [set_same A6.out.c (j := 0) (v := .int .i64 er) rfl]
    refine hK.out _ _ rfl (fun _ => ?_)
    clear hK K
    try simp only [Act.put, q0, q1, q2]
    refine wpAnyH_done (by kernel_rfl) ?_ _
    go_wp2_with fail
    exact ⟨.tuple #[.agg #[.int .i64 0, .int .i64 0, .int .i64 0, .string ⟨#[]⟩, .bool false, .slice none 0 0], .int .i64 a, .int .i64 er], by simp [results, Tryz.results32, go_sem, *], rfl, A6.out.below⟩
  ·go_simp
   rw [set_same A6.out.a (j := 0) (v := .int .i64 0) rfl, set_same A6.out.a (j := 1) (v := .int .i64 0) rfl, set_same A6.out.a (j := 2) (v := .int .i64 0) rfl, set_same A6.out.a (j := 3) (v := .string ⟨#[]⟩) rfl, set_same A6.out.a (j := 4) (v := .bool false) rfl, set_same A6.out.a (j := 5) (v := .slice none 0 0) rfl]
   refine hK.out _ _ rfl (fun _ => ?_)
   clear hK K
   try simp only [Act.put, q0, q1, q2]
   refine rR2 1 (some 18) 2 (some 19) (fun K hK => ?_) (fun K hK => ?_)
   ·go_simp
    refine hK.out _ _ rfl (fun _ => ?_)
    clear hK K
    try simp only [Act.put, q0, q1, q2]
    refine rR2 2 (some 19) 4 none (fun K hK => ?_) (fun K hK => ?_)
    ·go_simp
     refine hK.out _ _ rfl (fun _ => ?_)
     clear hK K
     try simp only [Act.put, q0, q1, q2]
     refine rR1 4 none (fun K hK => ?_)
     go_simp
     rw [set_same A6.out.b (j := 0) (v := .int .i64 a) rfl]
     refine hK.out _ _ rfl (fun _ => ?_)
     clear hK K
     try simp only [Act.put, q0, q1, q2]
     refine rR1 5 none (fun K hK => ?_)
     go_simp
     rw [set_same A6.out.c (j := 0) (v := .int .i64 er) rfl]
     refine hK.out _ _ rfl (fun _ => ?_)
     clear hK K
     try simp only [Act.put, q0, q1, q2]
     refine wpAnyH_done (by kernel_rfl) ?_ _
     go_wp2_with fail
     exact ⟨.tuple #[.agg #[.int .i64 0, .int .i64 0, .int .i64 0, .string ⟨#[]⟩, .bool false, .slice none 0 0], .int .i64 a, .int .i64 er], by simp [results, Tryz.results32, go_sem, *], rfl, A6.out.below⟩
    ·go_simp
     rw [set_same A6.out.b (j := 0) (v := .int .i64 a) rfl]
     refine hK.out _ _ rfl (fun _ => ?_)
     clear hK K
     try simp only [Act.put, q0, q1, q2]
     refine rR1 2 (some 19) (fun K hK => ?_)
     go_simp
     refine hK.out _ _ rfl (fun _ => ?_)
     clear hK K
     try simp only [Act.put, q0, q1, q2]
     refine rR1 5 none (fun K hK => ?_)
     go_simp
     rw [set_same A6.out.c (j := 0) (v := .int .i64 er) rfl]
     refine hK.out _ _ rfl (fun _ => ?_)
     clear hK K
     try simp only [Act.put, q0, q1, q2]
     refine wpAnyH_done (by kernel_rfl) ?_ _
     go_wp2_with fail
     exact ⟨.tuple #[.agg #[.int .i64 0, .int .i64 0, .int .i64 0, .string ⟨#[]⟩, .bool false, .slice none 0 0], .int .i64 a, .int .i64 er], by simp [results, Tryz.results32, go_sem, *], rfl, A6.out.below⟩
   ·go_simp
    refine hK.out _ _ rfl (fun _ => ?_)
    clear hK K
    try simp only [Act.put, q0, q1, q2]
    refine rR1 1 (some 18) (fun K hK => ?_)
    go_simp
    refine hK.out _ _ rfl (fun _ => ?_)
    clear hK K
    try simp only [Act.put, q0, q1, q2]
    refine rR1 4 none (fun K hK => ?_)
    go_simp
    rw [set_same A6.out.b (j := 0) (v := .int .i64 a) rfl]
    refine hK.out _ _ rfl (fun _ => ?_)
    clear hK K
    try simp only [Act.put, q0, q1, q2]
    refine rR1 5 none (fun K hK => ?_)
    go_simp
    rw [set_same A6.out.c (j := 0) (v := .int .i64 er) rfl]
    refine hK.out _ _ rfl (fun _ => ?_)
    clear hK K
    try simp only [Act.put, q0, q1, q2]
    refine wpAnyH_done (by kernel_rfl) ?_ _
    go_wp2_with fail
    exact ⟨.tuple #[.agg #[.int .i64 0, .int .i64 0, .int .i64 0, .string ⟨#[]⟩, .bool false, .slice none 0 0], .int .i64 a, .int .i64 er], by simp [results, Tryz.results32, go_sem, *], rfl, A6.out.below⟩
 ·go_simp
  refine hK.out _ _ rfl (fun _ => ?_)
  clear hK K
  try simp only [Act.put, q0, q1, q2]
  refine rR2 0 (some 17) 2 (some 19) (fun K hK => ?_) (fun K hK => ?_)
  ·go_simp
   refine hK.out _ _ rfl (fun _ => ?_)
   clear hK K
   try simp only [Act.put, q0, q1, q2]
   refine rR2 2 (some 19) 3 none (fun K hK => ?_) (fun K hK => ?_)
   ·go_simp
    refine hK.out _ _ rfl (fun _ => ?_)
    clear hK K
    try simp only [Act.put, q0, q1, q2]
    refine rR1 3 none (fun K hK => ?_)
    go_simp
    rw [set_same A6.out.a (j := 0) (v := .int .i64 0) rfl, set_same A6.out.a (j := 1) (v := .int .i64 0) rfl, set_same A6.out.a (j := 2) (v := .int .i64 0) rfl, set_same A6.out.a (j := 3) (v := .string ⟨#[]⟩) rfl, set_same A6.out.a (j := 4) (v := .bool false) rfl, set_same A6.out.a (j := 5) (v := .slice none 0 0) rfl]
    refine hK.out _ _ rfl (fun _ => ?_)
    clear hK K
    try simp only [Act.put, q0, q1, q2]
    refine rR1 4 none (fun K hK => ?_)
    go_simp
    rw [set_same A6.out.b (j := 0) (v := .int .i64 a) rfl]
    refine hK.out _ _ rfl (fun _ => ?_)
    clear hK K
    try simp only [Act.put, q0, q1, q2]
    refine rR1 5 none (fun K hK => ?_)
    go_simp
    rw [set_same A6.out.c (j := 0) (v := .int .i64 er) rfl]
    refine hK.out _ _ rfl (fun _ => ?_)
    clear hK K
    try simp only [Act.put, q0, q1, q2]
    refine wpAnyH_done (by kernel_rfl) ?_ _
    go_wp2_with fail
    exact ⟨.tuple #[.agg #[.int .i64 0, .int .i64 0, .int .i64 0, .string ⟨#[]⟩, .bool false, .slice none 0 0], .int .i64 a, .int .i64 er], by simp [results, Tryz.results32, go_sem, *], rfl, A6.out.below⟩
   ·go_simp
    rw [set_same A6.out.a (j := 0) (v := .int .i64 0) rfl, set_same A6.out.a (j := 1) (v := .int .i64 0) rfl, set_same A6.out.a (j := 2) (v := .int .i64 0) rfl, set_same A6.out.a (j := 3) (v := .string ⟨#[]⟩) rfl, set_same A6.out.a (j := 4) (v := .bool false) rfl, set_same A6.out.a (j := 5) (v := .slice none 0 0) rfl]
    refine hK.out _ _ rfl (fun _ => ?_)
    clear hK K
    try simp only [Act.put, q0, q1, q2]
    refine rR2 2 (some 19) 4 none (fun K hK => ?_) (fun K hK => ?_)
    ·go_simp
     refine hK.out _ _ rfl (fun _ => ?_)
     clear hK K
     try simp only [Act.put, q0, q1, q2]
     refine rR1 4 none (fun K hK => ?_)
     go_simp
     rw [set_same A6.out.b (j := 0) (v := .int .i64 a) rfl]
     refine hK.out _ _ rfl (fun _ => ?_)
     clear hK K
     try simp only [Act.put, q0, q1, q2]
     refine rR1 5 none (fun K hK => ?_)
     go_simp
     rw [set_same A6.out.c (j := 0) (v := .int .i64 er) rfl]
     refine hK.out _ _ rfl (fun _ => ?_)
     clear hK K
     try simp only [Act.put, q0, q1, q2]
     refine wpAnyH_done (by kernel_rfl) ?_ _
     go_wp2_with fail
     exact ⟨.tuple #[.agg #[.int .i64 0, .int .i64 0, .int .i64 0, .string ⟨#[]⟩, .bool false, .slice none 0 0], .int .i64 a, .int .i64 er], by simp [results, Tryz.results32, go_sem, *], rfl, A6.out.below⟩
    ·go_simp
     rw [set_same A6.out.b (j := 0) (v := .int .i64 a) rfl]
     refine hK.out _ _ rfl (fun _ => ?_)
     clear hK K
     try simp only [Act.put, q0, q1, q2]
     refine rR1 2 (some 19) (fun K hK => ?_)
     go_simp
     refine hK.out _ _ rfl (fun _ => ?_)
     clear hK K
     try simp only [Act.put, q0, q1, q2]
     refine rR1 5 none (fun K hK => ?_)
     go_simp
     rw [set_same A6.out.c (j := 0) (v := .int .i64 er) rfl]
     refine hK.out _ _ rfl (fun _ => ?_)
     clear hK K
     try simp only [Act.put, q0, q1, q2]
     refine wpAnyH_done (by kernel_rfl) ?_ _
     go_wp2_with fail
     exact ⟨.tuple #[.agg #[.int .i64 0, .int .i64 0, .int .i64 0, .string ⟨#[]⟩, .bool false, .slice none 0 0], .int .i64 a, .int .i64 er], by simp [results, Tryz.results32, go_sem, *], rfl, A6.out.below⟩
  ·go_simp
   refine hK.out _ _ rfl (fun _ => ?_)
   clear hK K
   try simp only [Act.put, q0, q1, q2]
   refine rR1 0 (some 17) (fun K hK => ?_)
   go_simp
   refine hK.out _ _ rfl (fun _ => ?_)
   clear hK K
   try simp only [Act.put, q0, q1, q2]
   refine rR1 3 none (fun K hK => ?_)
   go_simp
   rw [set_same A6.out.a (j := 0) (v := .int .i64 0) rfl, set_same A6.out.a (j := 1) (v := .int .i64 0) rfl, set_same A6.out.a (j := 2) (v := .int .i64 0) rfl, set_same A6.out.a (j := 3) (v := .string ⟨#[]⟩) rfl, set_same A6.out.a (j := 4) (v := .bool false) rfl, set_same A6.out.a (j := 5) (v := .slice none 0 0) rfl]
   refine hK.out _ _ rfl (fun _ => ?_)
   clear hK K
   try simp only [Act.put, q0, q1, q2]
   refine rR1 4 none (fun K hK => ?_)
   go_simp
   rw [set_same A6.out.b (j := 0) (v := .int .i64 a) rfl]
   refine hK.out _ _ rfl (fun _ => ?_)
   clear hK K
   try simp only [Act.put, q0, q1, q2]
   refine rR1 5 none (fun K hK => ?_)
   go_simp
   rw [set_same A6.out.c (j := 0) (v := .int .i64 er) rfl]
   refine hK.out _ _ rfl (fun _ => ?_)
   clear hK K
   try simp only [Act.put, q0, q1, q2]
   refine wpAnyH_done (by kernel_rfl) ?_ _
   go_wp2_with fail
   exact ⟨.tuple #[.agg #[.int .i64 0, .int .i64 0, .int .i64 0, .string ⟨#[]⟩, .bool false, .slice none 0 0], .int .i64 a, .int .i64 er], by simp [results, Tryz.results32, go_sem, *], rfl, A6.out.below⟩
 ·go_simp
  refine hK.out _ _ rfl (fun _ => ?_)
  clear hK K
  try simp only [Act.put, q0, q1, q2]
  refine rR2 0 (some 17) 1 (some 18) (fun K hK => ?_) (fun K hK => ?_)
  ·go_simp
   refine hK.out _ _ rfl (fun _ => ?_)
   clear hK K
   try simp only [Act.put, q0, q1, q2]
   refine rR2 1 (some 18) 3 none (fun K hK => ?_) (fun K hK => ?_)
   ·go_simp
    refine hK.out _ _ rfl (fun _ => ?_)
    clear hK K
    try simp only [Act.put, q0, q1, q2]
    refine rR1 3 none (fun K hK => ?_)
    go_simp
    rw [set_same A6.out.a (j := 0) (v := .int .i64 0) rfl, set_same A6.out.a (j := 1) (v := .int .i64 0) rfl, set_same A6.out.a (j := 2) (v := .int .i64 0) rfl, set_same A6.out.a (j := 3) (v := .string ⟨#[]⟩) rfl, set_same A6.out.a (j := 4) (v := .bool false) rfl, set_same A6.out.a (j := 5) (v := .slice none 0 0) rfl]
    refine hK.out _ _ rfl (fun _ => ?_)
    clear hK K
    try simp only [Act.put, q0, q1, q2]
    refine rR1 4 none (fun K hK => ?_)
    go_simp
    rw [set_same A6.out.b (j := 0) (v := .int .i64 a) rfl]
    refine hK.out _ _ rfl (fun _ => ?_)
    clear hK K
    try simp only [Act.put, q0, q1, q2]
    refine rR1 5 none (fun K hK => ?_)
    go_simp
    rw [set_same A6.out.c (j := 0) (v := .int .i64 er) rfl]
    refine hK.out _ _ rfl (fun _ => ?_)
    clear hK K
    try simp only [Act.put, q0, q1, q2]
    refine wpAnyH_done (by kernel_rfl) ?_ _
    go_wp2_with fail
    exact ⟨.tuple #[.agg #[.int .i64 0, .int .i64 0, .int .i64 0, .string ⟨#[]⟩, .bool false, .slice none 0 0], .int .i64 a, .int .i64 er], by simp [results, Tryz.results32, go_sem, *], rfl, A6.out.below⟩
   ·go_simp
    rw [set_same A6.out.a (j := 0) (v := .int .i64 0) rfl, set_same A6.out.a (j := 1) (v := .int .i64 0) rfl, set_same A6.out.a (j := 2) (v := .int .i64 0) rfl, set_same A6.out.a (j := 3) (v := .string ⟨#[]⟩) rfl, set_same A6.out.a (j := 4) (v := .bool false) rfl, set_same A6.out.a (j := 5) (v := .slice none 0 0) rfl]
    refine hK.out _ _ rfl (fun _ => ?_)
    clear hK K
    try simp only [Act.put, q0, q1, q2]
    refine rR1 1 (some 18) (fun K hK => ?_)
    go_simp
    refine hK.out _ _ rfl (fun _ => ?_)
    clear hK K
    try simp only [Act.put, q0, q1, q2]
    refine rR1 4 none (fun K hK => ?_)
    go_simp
    rw [set_same A6.out.b (j := 0) (v := .int .i64 a) rfl]
    refine hK.out _ _ rfl (fun _ => ?_)
    clear hK K
    try simp only [Act.put, q0, q1, q2]
    refine rR1 5 none (fun K hK => ?_)
    go_simp
    rw [set_same A6.out.c (j := 0) (v := .int .i64 er) rfl]
    refine hK.out _ _ rfl (fun _ => ?_)
    clear hK K
    try simp only [Act.put, q0, q1, q2]
    refine wpAnyH_done (by kernel_rfl) ?_ _
    go_wp2_with fail
    exact ⟨.tuple #[.agg #[.int .i64 0, .int .i64 0, .int .i64 0, .string ⟨#[]⟩, .bool false, .slice none 0 0], .int .i64 a, .int .i64 er], by simp [results, Tryz.results32, go_sem, *], rfl, A6.out.below⟩
  ·go_simp
   refine hK.out _ _ rfl (fun _ => ?_)
   clear hK K
   try simp only [Act.put, q0, q1, q2]
   refine rR1 0 (some 17) (fun K hK => ?_)
   go_simp
   refine hK.out _ _ rfl (fun _ => ?_)
   clear hK K
   try simp only [Act.put, q0, q1, q2]
   refine rR1 3 none (fun K hK => ?_)
   go_simp
   rw [set_same A6.out.a (j := 0) (v := .int .i64 0) rfl, set_same A6.out.a (j := 1) (v := .int .i64 0) rfl, set_same A6.out.a (j := 2) (v := .int .i64 0) rfl, set_same A6.out.a (j := 3) (v := .string ⟨#[]⟩) rfl, set_same A6.out.a (j := 4) (v := .bool false) rfl, set_same A6.out.a (j := 5) (v := .slice none 0 0) rfl]
   refine hK.out _ _ rfl (fun _ => ?_)
   clear hK K
   try simp only [Act.put, q0, q1, q2]
   refine rR1 4 none (fun K hK => ?_)
   go_simp
   rw [set_same A6.out.b (j := 0) (v := .int .i64 a) rfl]
   refine hK.out _ _ rfl (fun _ => ?_)
   clear hK K
   try simp only [Act.put, q0, q1, q2]
   refine rR1 5 none (fun K hK => ?_)
   go_simp
   rw [set_same A6.out.c (j := 0) (v := .int .i64 er) rfl]
   refine hK.out _ _ rfl (fun _ => ?_)
   clear hK K
   try simp only [Act.put, q0, q1, q2]
   refine wpAnyH_done (by kernel_rfl) ?_ _
   go_wp2_with fail
   exact ⟨.tuple #[.agg #[.int .i64 0, .int .i64 0, .int .i64 0, .string ⟨#[]⟩, .bool false, .slice none 0 0], .int .i64 a, .int .i64 er], by simp [results, Tryz.results32, go_sem, *], rfl, A6.out.below⟩
end Go.Proofs.YtdckddkalgnlpaaGreatDoor
