/-
  Several texts in one: PbRunB, TrAllE, TrAllS, TrProgC, TrAllN, TrAllM, TrAllC, SyExpr, SyClassB, SySize, SySizeS.
-/
import Derived.Test.YtdckddkalgnlpaaGreatDoorS14
import Derived.Test.YtdckddkalgnlpaaGreatDoorS5
import Derived.Laws.EntriesVeiled
import Derived.Maps.OwnSet
import Derived.Maps.StringElems
namespace Go.Proofs.YtdckddkalgnlpaaGreatDoor
open Go.RowKit Go.Maps Pw
set_option maxRecDepth 100000 in
set_option maxHeartbeats 8000000 in
theorem runP_bad (s : ByteArray) (w : World) (hE : LexEnv w) (hs : s.size ≤ 9223372036854775800) (a er : Nat) (hsc : Lex.scan s.data.toList = .bad a er) (hpos0 : 0 < er) :
    Calls Tryz.prog 24 #[.string s, .func (.func 25) #[] #[]] w fun e w' => e = .returned (.tuple #[.agg #[.slice none 0 0], .int .i64 a, .int .i64 er]) ∧ Below w.heap.size w w' := by
  have hpos : 0 < er := hpos0
  have hne : ((er : Int) != 0) = true := by rw [bne_iff_ne]; omega
  have HSC := Lib.hid hsc
  clear hsc hpos0
  obtain ⟨w3, HW, A3⟩ := ABC.start w #[.slice none 0 0] 25
  have HE := Lib.hid (hE.keep A3.out.below)
  have hmf := mkFunc
  clear hE
  go_enter_defers Tryz.func24, Tryz.ntmps24
  go_upto_region 1 with fail
  rw [← HW.out]
  clear HW
  obtain ⟨la, ca0, fa0⟩ := cells1 A3.out.a
  obtain ⟨lb, cb, fb⟩ := cells1 A3.out.b
  obtain ⟨lc, cc, fc⟩ := cells1 A3.out.c
  go_wp2_with fail
  clear la ca0 fa0 lb cb fb lc cc fc
  refine (scan_bad s a er w3 HE.out hs HSC.out).mono ?_
  rintro e w4 ⟨rfl, hb4⟩
  have A4 := Lib.hid (A3.out.keep (gr_below hb4 none) (fun _ h => by cases h))
  clear A3 hb4
  obtain ⟨la, ca0, fa0⟩ := cells1 A4.out.a
  obtain ⟨lb, cb, fb⟩ := cells1 A4.out.b
  obtain ⟨lc, cc, fc⟩ := cells1 A4.out.c
  obtain ⟨w5, HW⟩ : ∃ q, Hid (q = (w4.setCell ⟨w.heap.size + 1, 0, none⟩ (.int .i64 a)).setCell ⟨w.heap.size + 2, 0, none⟩ (.int .i64 er)) := ⟨_, Lib.hid rfl⟩
  have A5 := Lib.hid ((A4.out.setB a).setC er)
  rw [← HW.out] at A5
  go_upto_region 2 with fail
  rw [← HW.out]
  clear la ca0 fa0 lb cb fb lc cc fc
  clear HW A4
  obtain ⟨la, ca0, fa0⟩ := cells1 A5.out.a
  obtain ⟨lb, cb, fb⟩ := cells1 A5.out.b
  obtain ⟨lc, cc, fc⟩ := cells1 A5.out.c
  go_upto_region 3 with fail
  clear la ca0 fa0 lb cb fb lc cc fc
  obtain ⟨w6, HW⟩ : ∃ q, Hid (q = w5.drew) := ⟨_, Lib.hid rfl⟩
  have A6 := Lib.hid (A5.out.keep (W' := w5.drew) (gr_drew (gr_refl _ none)) (fun _ h => by cases h))
  rw [← HW.out] at A6
  refine wp_region_held_drew (S := fun W => W = w6) (by kernel_rfl) HW.out.symm (fun _ => ?_)
  rw [← HW.out]
  clear HW A5
  obtain ⟨la, ca0, fa0⟩ := cells1 A6.out.a
  obtain ⟨lb, cb, fb⟩ := cells1 A6.out.b
  obtain ⟨lc, cc, fc⟩ := cells1 A6.out.c
  refine rR3 0 (some 17) 1 (some 18) 2 (some 19) (fun K hK => ?_) (fun K hK => ?_) (fun K hK => ?_)
  · go_simp
    refine hK.out _ _ rfl (fun _ => ?_)
    clear hK K
    try simp only [Act.put, q0, q1, q2]
    refine rR3 1 (some 18) 2 (some 19) 3 none (fun K hK => ?_) (fun K hK => ?_) (fun K hK => ?_)
    · go_simp
      refine hK.out _ _ rfl (fun _ => ?_)
      clear hK K
      try simp only [Act.put, q0, q1, q2]
      refine rR2 2 (some 19) 3 none (fun K hK => ?_) (fun K hK => ?_)
      · go_simp
        refine hK.out _ _ rfl (fun _ => ?_)
        clear hK K
        try simp only [Act.put, q0, q1, q2]
        refine rR1 3 none (fun K hK => ?_)
        go_simp
        rw [set_same A6.out.a (j := 0) (v := .slice none 0 0) rfl]
        refine hK.out _ _ rfl (fun _ => ?_)
        clear hK K
        try simp only [Act.put, q0, q1, q2]
        refine rR1 4 none (fun K hK => ?_)
        go_simp
        rw [set_same A6.out.b (j := 0) (v := .int .i64 a) rfl]
        refine hK.out _ _ rfl (fun _ => ?_)
        clear hK K
        try simp only [Act.put, q0, q1, q2]
        refine rR1 5 none (fun K hK => ?_)
        go_simp
        rw [set_same A6.out.c (j := 0) (v := .int .i64 er) rfl]
        refine hK.out _ _ rfl (fun _ => ?_)
        clear hK K
        try simp only [Act.put, q0, q1, q2]
        refine wpAnyH_done (by kernel_rfl) ?_ _
        go_wp2_with fail
        exact ⟨.tuple #[.agg #[.slice none 0 0], .int .i64 a, .int .i64 er], by simp [results, Tryz.results24, go_sem, *], rfl, A6.out.below⟩
      · go_simp
        rw [set_same A6.out.a (j := 0) (v := .slice none 0 0) rfl]
        refine hK.out _ _ rfl (fun _ => ?_)
        clear hK K
        try simp only [Act.put, q0, q1, q2]
        refine rR2 2 (some 19) 4 none (fun K hK => ?_) (fun K hK => ?_)
        · go_simp
          refine hK.out _ _ rfl (fun _ => ?_)
          clear hK K
          try simp only [Act.put, q0, q1, q2]
          refine rR1 4 none (fun K hK => ?_)
          go_simp
          rw [set_same A6.out.b (j := 0) (v := .int .i64 a) rfl]
          refine hK.out _ _ rfl (fun _ => ?_)
          clear hK K
          try simp only [Act.put, q0, q1, q2]
          refine rR1 5 none (fun K hK => ?_)
          go_simp
          rw [set_same A6.out.c (j := 0) (v := .int .i64 er) rfl]
          refine hK.out _ _ rfl (fun _ => ?_)
          clear hK K
          try simp only [Act.put, q0, q1, q2]
          refine wpAnyH_done (by kernel_rfl) ?_ _
          go_wp2_with fail
          exact ⟨.tuple #[.agg #[.slice none 0 0], .int .i64 a, .int .i64 er], by simp [results, Tryz.results24, go_sem, *], rfl, A6.out.below⟩
        · go_simp
          rw [set_same A6.out.b (j := 0) (v := .int .i64 a) rfl]
          refine hK.out _ _ rfl (fun _ => ?_)
          clear hK K
          try simp only [Act.put, q0, q1, q2]
          refine rR1 2 (some 19) (fun K hK => ?_)
          go_simp
          refine hK.out _ _ rfl (fun _ => ?_)
          clear hK K
          try simp only [Act.put, q0, q1, q2]
          refine rR1 5 none (fun K hK => ?_)
          go_simp
          rw [set_same A6.out.c (j := 0) (v := .int .i64 er) rfl]
          refine hK.out _ _ rfl (fun _ => ?_)
          clear hK K
          try simp only [Act.put, q0, q1, q2]
          refine wpAnyH_done (by kernel_rfl) ?_ _
          go_wp2_with fail
          exact ⟨.tuple #[.agg #[.slice none 0 0], .int .i64 a, .int .i64 er], by simp [results, Tryz.results24, go_sem, *], rfl, A6.out.below⟩
    · go_simp
      refine hK.out _ _ rfl (fun _ => ?_)
      clear hK K
      try simp only [Act.put, q0, q1, q2]
      refine rR2 1 (some 18) 3 none (fun K hK => ?_) (fun K hK => ?_)
      · go_simp
        refine hK.out _ _ rfl (fun _ => ?_)
        clear hK K
        try simp only [Act.put, q0, q1, q2]
        refine rR1 3 none (fun K hK => ?_)
        go_simp
        rw [set_same A6.out.a (j := 0) (v := .slice none 0 0) rfl]
        refine hK.out _ _ rfl (fun _ => ?_)
        clear hK K
        try simp only [Act.put, q0, q1, q2]
        refine rR1 4 none (fun K hK => ?_)
        go_simp
        rw [set_same A6.out.b (j := 0) (v := .int .i64 a) rfl]
        refine hK.out _ _ rfl (fun _ => ?_)
        clear hK K
        try simp only [Act.put, q0, q1, q2]
        refine rR1 5 none (fun K hK => ?_)
        go_simp
        rw [set_same A6.out.c (j := 0) (v := .int .i64 er) rfl]
        refine hK.out _ _ rfl (fun _ => ?_)
        clear hK K
        try simp only [Act.put, q0, q1, q2]
        refine wpAnyH_done (by kernel_rfl) ?_ _
        go_wp2_with fail
        exact ⟨.tuple #[.agg #[.slice none 0 0], .int .i64 a, .int .i64 er], by simp [results, Tryz.results24, go_sem, *], rfl, A6.out.below⟩
      · go_simp
        rw [set_same A6.out.a (j := 0) (v := .slice none 0 0) rfl]
        refine hK.out _ _ rfl (fun _ => ?_)
        clear hK K
        try simp only [Act.put, q0, q1, q2]
        refine rR1 1 (some 18) (fun K hK => ?_)
        go_simp
        refine hK.out _ _ rfl (fun _ => ?_)
        clear hK K
        try simp only [Act.put, q0, q1, q2]
        refine rR1 4 none (fun K hK => ?_)
        go_simp
        rw [set_same A6.out.b (j := 0) (v := .int .i64 a) rfl]
        refine hK.out _ _ rfl (fun _ => ?_)
        clear hK K
        try simp only [Act.put, q0, q1, q2]
        refine rR1 5 none (fun K hK => ?_)
        go_simp
        rw [set_same A6.out.c (j := 0) (v := .int .i64 er) rfl]
        refine hK.out _ _ rfl (fun _ => ?_)
        clear hK K
        try simp only [Act.put, q0, q1, q2]
        refine wpAnyH_done (by kernel_rfl) ?_ _
        go_wp2_with fail
        exact ⟨.tuple #[.agg #[.slice none 0 0], .int .i64 a, .int .i64 er], by simp [results, Tryz.results24, go_sem, *], rfl, A6.out.below⟩
    · go_simp
      rw [set_same A6.out.a (j := 0) (v := .slice none 0 0) rfl]
      refine hK.out _ _ rfl (fun _ => ?_)
      clear hK K
      try simp only [Act.put, q0, q1, q2]
      refine rR2 1 (some 18) 2 (some 19) (fun K hK => ?_) (fun K hK => ?_)
      · go_simp
        refine hK.out _ _ rfl (fun _ => ?_)
        clear hK K
        try simp only [Act.put, q0, q1, q2]
        refine rR2 2 (some 19) 4 none (fun K hK => ?_) (fun K hK => ?_)
        · go_simp
          refine hK.out _ _ rfl (fun _ => ?_)
          clear hK K
          try simp only [Act.put, q0, q1, q2]
          refine rR1 4 none (fun K hK => ?_)
          go_simp
          rw [set_same A6.out.b (j := 0) (v := .int .i64 a) rfl]
          refine hK.out _ _ rfl (fun _ => ?_)
          clear hK K
          try simp only [Act.put, q0, q1, q2]
          refine rR1 5 none (fun K hK => ?_)
          go_simp
          rw [set_same A6.out.c (j := 0) (v := .int .i64 er) rfl]
          refine hK.out _ _ rfl (fun _ => ?_)
          clear hK K
          try simp only [Act.put, q0, q1, q2]
          refine wpAnyH_done (by kernel_rfl) ?_ _
          go_wp2_with fail
          exact ⟨.tuple #[.agg #[.slice none 0 0], .int .i64 a, .int .i64 er], by simp [results, Tryz.results24, go_sem, *], rfl, A6.out.below⟩
        · go_simp
          rw [set_same A6.out.b (j := 0) (v := .int .i64 a) rfl]
          refine hK.out _ _ rfl (fun _ => ?_)
          clear hK K
          try simp only [Act.put, q0, q1, q2]
          refine rR1 2 (some 19) (fun K hK => ?_)
          go_simp
          refine hK.out _ _ rfl (fun _ => ?_)
          clear hK K
          try simp only [Act.put, q0, q1, q2]
          refine rR1 5 none (fun K hK => ?_)
          go_simp
          rw [set_same A6.out.c (j := 0) (v := .int .i64 er) rfl]
          refine hK.out _ _ rfl (fun _ => ?_)
          clear hK K
          try simp only [Act.put, q0, q1, q2]
          refine wpAnyH_done (by kernel_rfl) ?_ _
          go_wp2_with fail
          exact ⟨.tuple #[.agg #[.slice none 0 0], .int .i64 a, .int .i64 er], by simp [results, Tryz.results24, go_sem, *], rfl, A6.out.below⟩
      · go_simp
        refine hK.out _ _ rfl (fun _ => ?_)
        clear hK K
        try simp only [Act.put, q0, q1, q2]
        refine rR1 1 (some 18) (fun K hK => ?_)
        go_simp
        refine hK.out _ _ rfl (fun _ => ?_)
        clear hK K
        try simp only [Act.put, q0, q1, q2]
        refine rR1 4 none (fun K hK => ?_)
        go_simp
        rw [set_same A6.out.b (j := 0) (v := .int .i64 a) rfl]
        refine hK.out _ _ rfl (fun _ => ?_)
        clear hK K
        try simp only [Act.put, q0, q1, q2]
        refine rR1 5 none (fun K hK => ?_)
        go_simp
        rw [set_same A6.out.c (j := 0) (v := .int .i64 er) rfl]
        refine hK.out _ _ rfl (fun _ => ?_)
        clear hK K
        try simp only [Act.put, q0, q1, q2]
        refine wpAnyH_done (by kernel_rfl) ?_ _
        go_wp2_with fail
        exact ⟨.tuple #[.agg #[.slice none 0 0], .int .i64 a, .int .i64 er], by simp [results, Tryz.results24, go_sem, *], rfl, A6.out.below⟩
  · go_simp
    refine hK.out _ _ rfl (fun _ => ?_)
    clear hK K
    try simp only [Act.put, q0, q1, q2]
    refine rR2 0 (some 17) 2 (some 19) (fun K hK => ?_) (fun K hK => ?_)
    · go_simp
      refine hK.out _ _ rfl (fun _ => ?_)
      clear hK K
      try simp only [Act.put, q0, q1, q2]
      refine rR2 2 (some 19) 3 none (fun K hK => ?_) (fun K hK => ?_)
      · go_simp
        refine hK.out _ _ rfl (fun _ => ?_)
        clear hK K
        try simp only [Act.put, q0, q1, q2]
        refine rR1 3 none (fun K hK => ?_)
        go_simp
        rw [set_same A6.out.a (j := 0) (v := .slice none 0 0) rfl]
        refine hK.out _ _ rfl (fun _ => ?_)
        clear hK K
        try simp only [Act.put, q0, q1, q2]
        refine rR1 4 none (fun K hK => ?_)
        go_simp
        rw [set_same A6.out.b (j := 0) (v := .int .i64 a) rfl]
        refine hK.out _ _ rfl (fun _ => ?_)
        clear hK K
        try simp only [Act.put, q0, q1, q2]
        refine rR1 5 none (fun K hK => ?_)
        go_simp
        rw [set_same A6.out.c (j := 0) (v := .int .i64 er) rfl]
        refine hK.out _ _ rfl (fun _ => ?_)
        clear hK K
        try simp only [Act.put, q0, q1, q2]
        refine wpAnyH_done (by kernel_rfl) ?_ _
        go_wp2_with fail
        exact ⟨.tuple #[.agg #[.slice none 0 0], .int .i64 a, .int .i64 er], by simp [results, Tryz.results24, go_sem, *], rfl, A6.out.below⟩
      · go_simp
        rw [set_same A6.out.a (j := 0) (v := .slice none 0 0) rfl]
        refine hK.out _ _ rfl (fun _ => ?_)
        clear hK K
        try simp only [Act.put, q0, q1, q2]
        refine rR2 2 (some 19) 4 none (fun K hK => ?_) (fun K hK => ?_)
        · go_simp
          refine hK.out _ _ rfl (fun _ => ?_)
          clear hK K
          try simp only [Act.put, q0, q1, q2]
          refine rR1 4 none (fun K hK => ?_)
          go_simp
          rw [set_same A6.out.b (j := 0) (v := .int .i64 a) rfl]
          refine hK.out _ _ rfl (fun _ => ?_)
          clear hK K
          try simp only [Act.put, q0, q1, q2]
          refine rR1 5 none (fun K hK => ?_)
          go_simp
          rw [set_same A6.out.c (j := 0) (v := .int .i64 er) rfl]
          refine hK.out _ _ rfl (fun _ => ?_)
          clear hK K
          try simp only [Act.put, q0, q1, q2]
          refine wpAnyH_done (by kernel_rfl) ?_ _
          go_wp2_with fail
          exact ⟨.tuple #[.agg #[.slice none 0 0], .int .i64 a, .int .i64 er], by simp [results, Tryz.results24, go_sem, *], rfl, A6.out.below⟩
        · go_simp
          rw [set_same A6.out.b (j := 0) (v := .int .i64 a) rfl]
          refine hK.out _ _ rfl (fun _ => ?_)
          clear hK K
          try simp only [Act.put, q0, q1, q2]
          refine rR1 2 (some 19) (fun K hK => ?_)
          go_simp
          refine hK.out _ _ rfl (fun _ => ?_)
          clear hK K
          try simp only [Act.put, q0, q1, q2]
          refine rR1 5 none (fun K hK => ?_)
          go_simp
          rw [set_same A6.out.c (j := 0) (v := .int .i64 er) rfl]
          refine hK.out _ _ rfl (fun _ => ?_)
          clear hK K
          try simp only [Act.put, q0, q1, q2]
          refine wpAnyH_done (by kernel_rfl) ?_ _
          go_wp2_with fail
          exact ⟨.tuple #[.agg #[.slice none 0 0], .int .i64 a, .int .i64 er], by simp [results, Tryz.results24, go_sem, *], rfl, A6.out.below⟩
    · go_simp
      refine hK.out _ _ rfl (fun _ => ?_)
      clear hK K
      try simp only [Act.put, q0, q1, q2]
      refine rR1 0 (some 17) (fun K hK => ?_)
      go_simp
      refine hK.out _ _ rfl (fun _ => ?_)
      clear hK K
      try simp only [Act.put, q0, q1, q2]
      refine rR1 3 none (fun K hK => ?_)
      go_simp
      rw [set_same A6.out.a (j := 0) (v := .slice none 0 0) rfl]
      refine hK.out _ _ rfl (fun _ => ?_)
      clear hK K
      try simp only [Act.put, q0, q1, q2]
      refine rR1 4 none (fun K hK => ?_)
      go_simp
      rw [set_same A6.out.b (j := 0) (v := .int .i64 a) rfl]
      refine hK.out _ _ rfl (fun _ => ?_)
      clear hK K
      try simp only [Act.put, q0, q1, q2]
      refine rR1 5 none (fun K hK => ?_)
      go_simp
      rw [set_same A6.out.c (j := 0) (v := .int .i64 er) rfl]
      refine hK.out _ _ rfl (fun _ => ?_)
      clear hK K
      try simp only [Act.put, q0, q1, q2]
      refine wpAnyH_done (by kernel_rfl) ?_ _
      go_wp2_with fail
      exact ⟨.tuple #[.agg #[.slice none 0 0], .int .i64 a, .int .i64 er], by simp [results, Tryz.results24, go_sem, *], rfl, A6.out.below⟩
  · go_simp
    refine hK.out _ _ rfl (fun _ => ?_)
    clear hK K
    try simp only [Act.put, q0, q1, q2]
    refine rR2 0 (some 17) 1 (some 18) (fun K hK => ?_) (fun K hK => ?_)
    · go_simp
      refine hK.out _ _ rfl (fun _ => ?_)
      clear hK K
      try simp only [Act.put, q0, q1, q2]
      refine rR2 1 (some 18) 3 none (fun K hK => ?_) (fun K hK => ?_)
      · go_simp
        refine hK.out _ _ rfl (fun _ => ?_)
        clear hK K
        try simp only [Act.put, q0, q1, q2]
        refine rR1 3 none (fun K hK => ?_)
        go_simp
        rw [set_same A6.out.a (j := 0) (v := .slice none 0 0) rfl]
        refine hK.out _ _ rfl (fun _ => ?_)
        clear hK K
        try simp only [Act.put, q0, q1, q2]
        refine rR1 4 none (fun K hK => ?_)
        go_simp
        rw [set_same A6.out.b (j := 0) (v := .int .i64 a) rfl]
        refine hK.out _ _ rfl (fun _ => ?_)
        clear hK K
        try simp only [Act.put, q0, q1, q2]
        refine rR1 5 none (fun K hK => ?_)
        go_simp
        rw [set_same A6.out.c (j := 0) (v := .int .i64 er) rfl]
        refine hK.out _ _ rfl (fun _ => ?_)
        clear hK K
        try simp only [Act.put, q0, q1, q2]
        refine wpAnyH_done (by kernel_rfl) ?_ _
        go_wp2_with fail
        exact ⟨.tuple #[.agg #[.slice none 0 0], .int .i64 a, .int .i64 er], by simp [results, Tryz.results24, go_sem, *], rfl, A6.out.below⟩
      · go_simp
        rw [set_same A6.out.a (j := 0) (v := .slice none 0 0) rfl]
        refine hK.out _ _ rfl (fun _ => ?_)
        clear hK K
        try simp only [Act.put, q0, q1, q2]
        refine rR1 1 (some 18) (fun K hK => ?_)
        go_simp
        refine hK.out _ _ rfl (fun _ => ?_)
        clear hK K
        try simp only [Act.put, q0, q1, q2]
        refine rR1 4 none (fun K hK => ?_)
        go_simp
        rw [set_same A6.out.b (j := 0) (v := .int .i64 a) rfl]
        refine hK.out _ _ rfl (fun _ => ?_)
        clear hK K
        try simp only [Act.put, q0, q1, q2]
        refine rR1 5 none (fun K hK => ?_)
        go_simp
        rw [set_same A6.out.c (j := 0) (v := .int .i64 er) rfl]
        refine hK.out _ _ rfl (fun _ => ?_)
        clear hK K
        try simp only [Act.put, q0, q1, q2]
        refine wpAnyH_done (by kernel_rfl) ?_ _
        go_wp2_with fail
        exact ⟨.tuple #[.agg #[.slice none 0 0], .int .i64 a, .int .i64 er], by simp [results, Tryz.results24, go_sem, *], rfl, A6.out.below⟩
    · go_simp
      refine hK.out _ _ rfl (fun _ => ?_)
      clear hK K
      try simp only [Act.put, q0, q1, q2]
      refine rR1 0 (some 17) (fun K hK => ?_)
      go_simp
      refine hK.out _ _ rfl (fun _ => ?_)
      clear hK K
      try simp only [Act.put, q0, q1, q2]
      refine rR1 3 none (fun K hK => ?_)
      go_simp
      rw [set_same A6.out.a (j := 0) (v := .slice none 0 0) rfl]
      refine hK.out _ _ rfl (fun _ => ?_)
      clear hK K
      try simp only [Act.put, q0, q1, q2]
      refine rR1 4 none (fun K hK => ?_)
      go_simp
      rw [set_same A6.out.b (j := 0) (v := .int .i64 a) rfl]
      refine hK.out _ _ rfl (fun _ => ?_)
      clear hK K
      try simp only [Act.put, q0, q1, q2]
      refine rR1 5 none (fun K hK => ?_)
      go_simp
      rw [set_same A6.out.c (j := 0) (v := .int .i64 er) rfl]
      refine hK.out _ _ rfl (fun _ => ?_)
      clear hK K
      try simp only [Act.put, q0, q1, q2]
      refine wpAnyH_done (by kernel_rfl) ?_ _
      go_wp2_with fail
      exact ⟨.tuple #[.agg #[.slice none 0 0], .int .i64 a, .int .i64 er], by simp [results, Tryz.results24, go_sem, *], rfl, A6.out.below⟩
set_option maxRecDepth 100000 in
set_option maxHeartbeats 8000000 in
theorem runE_bad (s : ByteArray) (w : World) (hE : LexEnv w) (hs : s.size ≤ 9223372036854775800) (a er : Nat) (hsc : Lex.scan s.data.toList = .bad a er) (hpos0 : 0 < er) :
    Calls Tryz.prog 32 #[.string s, .func (.func 33) #[] #[]] w fun e w' => e = .returned (.tuple #[.agg #[.int .i64 0, .int .i64 0, .int .i64 0, .string ⟨#[]⟩, .bool false, .slice none 0 0], .int .i64 a, .int .i64 er]) ∧ Below w.heap.size w w' := by
  have hpos : 0 < er := hpos0
  have hne : ((er : Int) != 0) = true := by rw [bne_iff_ne]; omega
  have HSC := Lib.hid hsc
  clear hsc hpos0
  obtain ⟨w3, HW, A3⟩ := ABC.start w #[.int .i64 0, .int .i64 0, .int .i64 0, .string ⟨#[]⟩, .bool false, .slice none 0 0] 33
  have HE := Lib.hid (hE.keep A3.out.below)
  have hmf := mkFunc
  clear hE
  go_enter_defers Tryz.func32, Tryz.ntmps32
  go_upto_region 1 with fail
  rw [← HW.out]
  clear HW
  obtain ⟨la, ca0, fa0, ca1, fa1, ca2, fa2, ca3, fa3, ca4, fa4, ca5, fa5⟩ := cells6 A3.out.a
  obtain ⟨lb, cb, fb⟩ := cells1 A3.out.b
  obtain ⟨lc, cc, fc⟩ := cells1 A3.out.c
  go_wp2_with fail
  clear la ca0 fa0 ca1 fa1 ca2 fa2 ca3 fa3 ca4 fa4 ca5 fa5 lb cb fb lc cc fc
  refine (scan_bad s a er w3 HE.out hs HSC.out).mono ?_
  rintro e w4 ⟨rfl, hb4⟩
  have A4 := Lib.hid (A3.out.keep (gr_below hb4 none) (fun _ h => by cases h))
  clear A3 hb4
  obtain ⟨la, ca0, fa0, ca1, fa1, ca2, fa2, ca3, fa3, ca4, fa4, ca5, fa5⟩ := cells6 A4.out.a
  obtain ⟨lb, cb, fb⟩ := cells1 A4.out.b
  obtain ⟨lc, cc, fc⟩ := cells1 A4.out.c
  obtain ⟨w5, HW⟩ : ∃ q, Hid (q = (w4.setCell ⟨w.heap.size + 1, 0, none⟩ (.int .i64 a)).setCell ⟨w.heap.size + 2, 0, none⟩ (.int .i64 er)) := ⟨_, Lib.hid rfl⟩
  have A5 := Lib.hid ((A4.out.setB a).setC er)
  rw [← HW.out] at A5
  go_upto_region 2 with fail
  rw [← HW.out]
  clear la ca0 fa0 ca1 fa1 ca2 fa2 ca3 fa3 ca4 fa4 ca5 fa5 lb cb fb lc cc fc
  clear HW A4
  obtain ⟨la, ca0, fa0, ca1, fa1, ca2, fa2, ca3, fa3, ca4, fa4, ca5, fa5⟩ := cells6 A5.out.a
  obtain ⟨lb, cb, fb⟩ := cells1 A5.out.b
  obtain ⟨lc, cc, fc⟩ := cells1 A5.out.c
  go_upto_region 3 with fail
  clear la ca0 fa0 ca1 fa1 ca2 fa2 ca3 fa3 ca4 fa4 ca5 fa5 lb cb fb lc cc fc
  obtain ⟨w6, HW⟩ : ∃ q, Hid (q = w5.drew) := ⟨_, Lib.hid rfl⟩
  have A6 := Lib.hid (A5.out.keep (W' := w5.drew) (gr_drew (gr_refl _ none)) (fun _ h => by cases h))
  rw [← HW.out] at A6
  refine wp_region_held_drew (S := fun W => W = w6) (by kernel_rfl) HW.out.symm (fun _ => ?_)
  rw [← HW.out]
  clear HW A5
  obtain ⟨la, ca0, fa0, ca1, fa1, ca2, fa2, ca3, fa3, ca4, fa4, ca5, fa5⟩ := cells6 A6.out.a
  obtain ⟨lb, cb, fb⟩ := cells1 A6.out.b
  obtain ⟨lc, cc, fc⟩ := cells1 A6.out.c
  refine rR3 0 (some 17) 1 (some 18) 2 (some 19) (fun K hK => ?_) (fun K hK => ?_) (fun K hK => ?_)
  · go_simp
    refine hK.out _ _ rfl (fun _ => ?_)
    clear hK K
    try simp only [Act.put, q0, q1, q2]
    refine rR3 1 (some 18) 2 (some 19) 3 none (fun K hK => ?_) (fun K hK => ?_) (fun K hK => ?_)
    · go_simp
      refine hK.out _ _ rfl (fun _ => ?_)
      clear hK K
      try simp only [Act.put, q0, q1, q2]
      refine rR2 2 (some 19) 3 none (fun K hK => ?_) (fun K hK => ?_)
      · go_simp
        refine hK.out _ _ rfl (fun _ => ?_)
        clear hK K
        try simp only [Act.put, q0, q1, q2]
        refine rR1 3 none (fun K hK => ?_)
        go_simp
        rw [set_same A6.out.a (j := 0) (v := .int .i64 0) rfl, set_same A6.out.a (j := 1) (v := .int .i64 0) rfl, set_same A6.out.a (j := 2) (v := .int .i64 0) rfl, set_same A6.out.a (j := 3) (v := .string ⟨#[]⟩) rfl, set_same A6.out.a (j := 4) (v := .bool false) rfl, set_same A6.out.a (j := 5) (v := .slice none 0 0) rfl]
        refine hK.out _ _ rfl (fun _ => ?_)
        clear hK K
        try simp only [Act.put, q0, q1, q2]
        refine rR1 4 none (fun K hK => ?_)
        go_simp
        rw [set_same A6.out.b (j := 0) (v := .int .i64 a) rfl]
        refine hK.out _ _ rfl (fun _ => ?_)
        clear hK K
        try simp only [Act.put, q0, q1, q2]
        refine rR1 5 none (fun K hK => ?_)
        go_simp
        rw [set_same A6.out.c (j := 0) (v := .int .i64 er) rfl]
        refine hK.out _ _ rfl (fun _ => ?_)
        clear hK K
        try simp only [Act.put, q0, q1, q2]
        refine wpAnyH_done (by kernel_rfl) ?_ _
        go_wp2_with fail
        exact ⟨.tuple #[.agg #[.int .i64 0, .int .i64 0, .int .i64 0, .string ⟨#[]⟩, .bool false, .slice none 0 0], .int .i64 a, .int .i64 er], by simp [results, Tryz.results32, go_sem, *], rfl, A6.out.below⟩
      · go_simp
        rw [set_same A6.out.a (j := 0) (v := .int .i64 0) rfl, set_same A6.out.a (j := 1) (v := .int .i64 0) rfl, set_same A6.out.a (j := 2) (v := .int .i64 0) rfl, set_same A6.out.a (j := 3) (v := .string ⟨#[]⟩) rfl, set_same A6.out.a (j := 4) (v := .bool false) rfl, set_same A6.out.a (j := 5) (v := .slice none 0 0) rfl]
        refine hK.out _ _ rfl (fun _ => ?_)
        clear hK K
        try simp only [Act.put, q0, q1, q2]
        refine rR2 2 (some 19) 4 none (fun K hK => ?_) (fun K hK => ?_)
        · go_simp
          refine hK.out _ _ rfl (fun _ => ?_)
          clear hK K
          try simp only [Act.put, q0, q1, q2]
          refine rR1 4 none (fun K hK => ?_)
          go_simp
          rw [set_same A6.out.b (j := 0) (v := .int .i64 a) rfl]
          refine hK.out _ _ rfl (fun _ => ?_)
          clear hK K
          try simp only [Act.put, q0, q1, q2]
          refine rR1 5 none (fun K hK => ?_)
          go_simp
          rw [set_same A6.out.c (j := 0) (v := .int .i64 er) rfl]
          refine hK.out _ _ rfl (fun _ => ?_)
          clear hK K
          try simp only [Act.put, q0, q1, q2]
          refine wpAnyH_done (by kernel_rfl) ?_ _
          go_wp2_with fail
          exact ⟨.tuple #[.agg #[.int .i64 0, .int .i64 0, .int .i64 0, .string ⟨#[]⟩, .bool false, .slice none 0 0], .int .i64 a, .int .i64 er], by simp [results, Tryz.results32, go_sem, *], rfl, A6.out.below⟩
        · go_simp
          rw [set_same A6.out.b (j := 0) (v := .int .i64 a) rfl]
          refine hK.out _ _ rfl (fun _ => ?_)
          clear hK K
          try simp only [Act.put, q0, q1, q2]
          refine rR1 2 (some 19) (fun K hK => ?_)
          go_simp
          refine hK.out _ _ rfl (fun _ => ?_)
          clear hK K
          try simp only [Act.put, q0, q1, q2]
          refine rR1 5 none (fun K hK => ?_)
          go_simp
          rw [set_same A6.out.c (j := 0) (v := .int .i64 er) rfl]
          refine hK.out _ _ rfl (fun _ => ?_)
          clear hK K
          try simp only [Act.put, q0, q1, q2]
          refine wpAnyH_done (by kernel_rfl) ?_ _
          go_wp2_with fail
          exact ⟨.tuple #[.agg #[.int .i64 0, .int .i64 0, .int .i64 0, .string ⟨#[]⟩, .bool false, .slice none 0 0], .int .i64 a, .int .i64 er], by simp [results, Tryz.results32, go_sem, *], rfl, A6.out.below⟩
    · go_simp
      refine hK.out _ _ rfl (fun _ => ?_)
      clear hK K
      try simp only [Act.put, q0, q1, q2]
      refine rR2 1 (some 18) 3 none (fun K hK => ?_) (fun K hK => ?_)
      · go_simp
        refine hK.out _ _ rfl (fun _ => ?_)
        clear hK K
        try simp only [Act.put, q0, q1, q2]
        refine rR1 3 none (fun K hK => ?_)
        go_simp
        rw [set_same A6.out.a (j := 0) (v := .int .i64 0) rfl, set_same A6.out.a (j := 1) (v := .int .i64 0) rfl, set_same A6.out.a (j := 2) (v := .int .i64 0) rfl, set_same A6.out.a (j := 3) (v := .string ⟨#[]⟩) rfl, set_same A6.out.a (j := 4) (v := .bool false) rfl, set_same A6.out.a (j := 5) (v := .slice none 0 0) rfl]
        refine hK.out _ _ rfl (fun _ => ?_)
        clear hK K
        try simp only [Act.put, q0, q1, q2]
        refine rR1 4 none (fun K hK => ?_)
        go_simp
        rw [set_same A6.out.b (j := 0) (v := .int .i64 a) rfl]
        refine hK.out _ _ rfl (fun _ => ?_)
        clear hK K
        try simp only [Act.put, q0, q1, q2]
        refine rR1 5 none (fun K hK => ?_)
        go_simp
        rw [set_same A6.out.c (j := 0) (v := .int .i64 er) rfl]
        refine hK.out _ _ rfl (fun _ => ?_)
        clear hK K
        try simp only [Act.put, q0, q1, q2]
        refine wpAnyH_done (by kernel_rfl) ?_ _
        go_wp2_with fail
        exact ⟨.tuple #[.agg #[.int .i64 0, .int .i64 0, .int .i64 0, .string ⟨#[]⟩, .bool false, .slice none 0 0], .int .i64 a, .int .i64 er], by simp [results, Tryz.results32, go_sem, *], rfl, A6.out.below⟩
      · go_simp
        rw [set_same A6.out.a (j := 0) (v := .int .i64 0) rfl, set_same A6.out.a (j := 1) (v := .int .i64 0) rfl, set_same A6.out.a (j := 2) (v := .int .i64 0) rfl, set_same A6.out.a (j := 3) (v := .string ⟨#[]⟩) rfl, set_same A6.out.a (j := 4) (v := .bool false) rfl, set_same A6.out.a (j := 5) (v := .slice none 0 0) rfl]
        refine hK.out _ _ rfl (fun _ => ?_)
        clear hK K
        try simp only [Act.put, q0, q1, q2]
        refine rR1 1 (some 18) (fun K hK => ?_)
        go_simp
        refine hK.out _ _ rfl (fun _ => ?_)
        clear hK K
        try simp only [Act.put, q0, q1, q2]
        refine rR1 4 none (fun K hK => ?_)
        go_simp
        rw [set_same A6.out.b (j := 0) (v := .int .i64 a) rfl]
        refine hK.out _ _ rfl (fun _ => ?_)
        clear hK K
        try simp only [Act.put, q0, q1, q2]
        refine rR1 5 none (fun K hK => ?_)
        go_simp
        rw [set_same A6.out.c (j := 0) (v := .int .i64 er) rfl]
        refine hK.out _ _ rfl (fun _ => ?_)
        clear hK K
        try simp only [Act.put, q0, q1, q2]
        refine wpAnyH_done (by kernel_rfl) ?_ _
        go_wp2_with fail
        exact ⟨.tuple #[.agg #[.int .i64 0, .int .i64 0, .int .i64 0, .string ⟨#[]⟩, .bool false, .slice none 0 0], .int .i64 a, .int .i64 er], by simp [results, Tryz.results32, go_sem, *], rfl, A6.out.below⟩
    · go_simp
      rw [set_same A6.out.a (j := 0) (v := .int .i64 0) rfl, set_same A6.out.a (j := 1) (v := .int .i64 0) rfl, set_same A6.out.a (j := 2) (v := .int .i64 0) rfl, set_same A6.out.a (j := 3) (v := .string ⟨#[]⟩) rfl, set_same A6.out.a (j := 4) (v := .bool false) rfl, set_same A6.out.a (j := 5) (v := .slice none 0 0) rfl]
      refine hK.out _ _ rfl (fun _ => ?_)
      clear hK K
      try simp only [Act.put, q0, q1, q2]
      refine rR2 1 (some 18) 2 (some 19) (fun K hK => ?_) (fun K hK => ?_)
      · go_simp
        refine hK.out _ _ rfl (fun _ => ?_)
        clear hK K
        try simp only [Act.put, q0, q1, q2]
        refine rR2 2 (some 19) 4 none (fun K hK => ?_) (fun K hK => ?_)
        · go_simp
          refine hK.out _ _ rfl (fun _ => ?_)
          clear hK K
          try simp only [Act.put, q0, q1, q2]
          refine rR1 4 none (fun K hK => ?_)
          go_simp
          rw [set_same A6.out.b (j := 0) (v := .int .i64 a) rfl]
          refine hK.out _ _ rfl (fun _ => ?_)
          clear hK K
          try simp only [Act.put, q0, q1, q2]
          refine rR1 5 none (fun K hK => ?_)
          go_simp
          rw [set_same A6.out.c (j := 0) (v := .int .i64 er) rfl]
          refine hK.out _ _ rfl (fun _ => ?_)
          clear hK K
          try simp only [Act.put, q0, q1, q2]
          refine wpAnyH_done (by kernel_rfl) ?_ _
          go_wp2_with fail
          exact ⟨.tuple #[.agg #[.int .i64 0, .int .i64 0, .int .i64 0, .string ⟨#[]⟩, .bool false, .slice none 0 0], .int .i64 a, .int .i64 er], by simp [results, Tryz.results32, go_sem, *], rfl, A6.out.below⟩
        · go_simp
          rw [set_same A6.out.b (j := 0) (v := .int .i64 a) rfl]
          refine hK.out _ _ rfl (fun _ => ?_)
          clear hK K
          try simp only [Act.put, q0, q1, q2]
          refine rR1 2 (some 19) (fun K hK => ?_)
          go_simp
          refine hK.out _ _ rfl (fun _ => ?_)
          clear hK K
          try simp only [Act.put, q0, q1, q2]
          refine rR1 5 none (fun K hK => ?_)
          go_simp
          rw [set_same A6.out.c (j := 0) (v := .int .i64 er) rfl]
          refine hK.out _ _ rfl (fun _ => ?_)
          clear hK K
          try simp only [Act.put, q0, q1, q2]
          refine wpAnyH_done (by kernel_rfl) ?_ _
          go_wp2_with fail
          exact ⟨.tuple #[.agg #[.int .i64 0, .int .i64 0, .int .i64 0, .string ⟨#[]⟩, .bool false, .slice none 0 0], .int .i64 a, .int .i64 er], by simp [results, Tryz.results32, go_sem, *], rfl, A6.out.below⟩
      · go_simp
        refine hK.out _ _ rfl (fun _ => ?_)
        clear hK K
        try simp only [Act.put, q0, q1, q2]
        refine rR1 1 (some 18) (fun K hK => ?_)
        go_simp
        refine hK.out _ _ rfl (fun _ => ?_)
        clear hK K
        try simp only [Act.put, q0, q1, q2]
        refine rR1 4 none (fun K hK => ?_)
        go_simp
        rw [set_same A6.out.b (j := 0) (v := .int .i64 a) rfl]
        refine hK.out _ _ rfl (fun _ => ?_)
        clear hK K
        try simp only [Act.put, q0, q1, q2]
        refine rR1 5 none (fun K hK => ?_)
        go_simp
        rw [set_same A6.out.c (j := 0) (v := .int .i64 er) rfl]
        refine hK.out _ _ rfl (fun _ => ?_)
        clear hK K
        try simp only [Act.put, q0, q1, q2]
        refine wpAnyH_done (by kernel_rfl) ?_ _
        go_wp2_with fail
        exact ⟨.tuple #[.agg #[.int .i64 0, .int .i64 0, .int .i64 0, .string ⟨#[]⟩, .bool false, .slice none 0 0], .int .i64 a, .int .i64 er], by simp [results, Tryz.results32, go_sem, *], rfl, A6.out.below⟩
  · go_simp
    refine hK.out _ _ rfl (fun _ => ?_)
    clear hK K
    try simp only [Act.put, q0, q1, q2]
    refine rR2 0 (some 17) 2 (some 19) (fun K hK => ?_) (fun K hK => ?_)
    · go_simp
      refine hK.out _ _ rfl (fun _ => ?_)
      clear hK K
      try simp only [Act.put, q0, q1, q2]
      refine rR2 2 (some 19) 3 none (fun K hK => ?_) (fun K hK => ?_)
      · go_simp
        refine hK.out _ _ rfl (fun _ => ?_)
        clear hK K
        try simp only [Act.put, q0, q1, q2]
        refine rR1 3 none (fun K hK => ?_)
        go_simp
        rw [set_same A6.out.a (j := 0) (v := .int .i64 0) rfl, set_same A6.out.a (j := 1) (v := .int .i64 0) rfl, set_same A6.out.a (j := 2) (v := .int .i64 0) rfl, set_same A6.out.a (j := 3) (v := .string ⟨#[]⟩) rfl, set_same A6.out.a (j := 4) (v := .bool false) rfl, set_same A6.out.a (j := 5) (v := .slice none 0 0) rfl]
        refine hK.out _ _ rfl (fun _ => ?_)
        clear hK K
        try simp only [Act.put, q0, q1, q2]
        refine rR1 4 none (fun K hK => ?_)
        go_simp
        rw [set_same A6.out.b (j := 0) (v := .int .i64 a) rfl]
        refine hK.out _ _ rfl (fun _ => ?_)
        clear hK K
        try simp only [Act.put, q0, q1, q2]
        refine rR1 5 none (fun K hK => ?_)
        go_simp
        rw [set_same A6.out.c (j := 0) (v := .int .i64 er) rfl]
        refine hK.out _ _ rfl (fun _ => ?_)
        clear hK K
        try simp only [Act.put, q0, q1, q2]
        refine wpAnyH_done (by kernel_rfl) ?_ _
        go_wp2_with fail
        exact ⟨.tuple #[.agg #[.int .i64 0, .int .i64 0, .int .i64 0, .string ⟨#[]⟩, .bool false, .slice none 0 0], .int .i64 a, .int .i64 er], by simp [results, Tryz.results32, go_sem, *], rfl, A6.out.below⟩
      · go_simp
        rw [set_same A6.out.a (j := 0) (v := .int .i64 0) rfl, set_same A6.out.a (j := 1) (v := .int .i64 0) rfl, set_same A6.out.a (j := 2) (v := .int .i64 0) rfl, set_same A6.out.a (j := 3) (v := .string ⟨#[]⟩) rfl, set_same A6.out.a (j := 4) (v := .bool false) rfl, set_same A6.out.a (j := 5) (v := .slice none 0 0) rfl]
        refine hK.out _ _ rfl (fun _ => ?_)
        clear hK K
        try simp only [Act.put, q0, q1, q2]
        refine rR2 2 (some 19) 4 none (fun K hK => ?_) (fun K hK => ?_)
        · go_simp
          refine hK.out _ _ rfl (fun _ => ?_)
          clear hK K
          try simp only [Act.put, q0, q1, q2]
          refine rR1 4 none (fun K hK => ?_)
          go_simp
          rw [set_same A6.out.b (j := 0) (v := .int .i64 a) rfl]
          refine hK.out _ _ rfl (fun _ => ?_)
          clear hK K
          try simp only [Act.put, q0, q1, q2]
          refine rR1 5 none (fun K hK => ?_)
          go_simp
          rw [set_same A6.out.c (j := 0) (v := .int .i64 er) rfl]
          refine hK.out _ _ rfl (fun _ => ?_)
          clear hK K
          try simp only [Act.put, q0, q1, q2]
          refine wpAnyH_done (by kernel_rfl) ?_ _
          go_wp2_with fail
          exact ⟨.tuple #[.agg #[.int .i64 0, .int .i64 0, .int .i64 0, .string ⟨#[]⟩, .bool false, .slice none 0 0], .int .i64 a, .int .i64 er], by simp [results, Tryz.results32, go_sem, *], rfl, A6.out.below⟩
        · go_simp
          rw [set_same A6.out.b (j := 0) (v := .int .i64 a) rfl]
          refine hK.out _ _ rfl (fun _ => ?_)
          clear hK K
          try simp only [Act.put, q0, q1, q2]
          refine rR1 2 (some 19) (fun K hK => ?_)
          go_simp
          refine hK.out _ _ rfl (fun _ => ?_)
          clear hK K
          try simp only [Act.put, q0, q1, q2]
          refine rR1 5 none (fun K hK => ?_)
          go_simp
          rw [set_same A6.out.c (j := 0) (v := .int .i64 er) rfl]
          refine hK.out _ _ rfl (fun _ => ?_)
          clear hK K
          try simp only [Act.put, q0, q1, q2]
          refine wpAnyH_done (by kernel_rfl) ?_ _
          go_wp2_with fail
          exact ⟨.tuple #[.agg #[.int .i64 0, .int .i64 0, .int .i64 0, .string ⟨#[]⟩, .bool false, .slice none 0 0], .int .i64 a, .int .i64 er], by simp [results, Tryz.results32, go_sem, *], rfl, A6.out.below⟩
    · go_simp
      refine hK.out _ _ rfl (fun _ => ?_)
      clear hK K
      try simp only [Act.put, q0, q1, q2]
      refine rR1 0 (some 17) (fun K hK => ?_)
      go_simp
      refine hK.out _ _ rfl (fun _ => ?_)
      clear hK K
      try simp only [Act.put, q0, q1, q2]
      refine rR1 3 none (fun K hK => ?_)
      go_simp
      rw [set_same A6.out.a (j := 0) (v := .int .i64 0) rfl, set_same A6.out.a (j := 1) (v := .int .i64 0) rfl, set_same A6.out.a (j := 2) (v := .int .i64 0) rfl, set_same A6.out.a (j := 3) (v := .string ⟨#[]⟩) rfl, set_same A6.out.a (j := 4) (v := .bool false) rfl, set_same A6.out.a (j := 5) (v := .slice none 0 0) rfl]
      refine hK.out _ _ rfl (fun _ => ?_)
      clear hK K
      try simp only [Act.put, q0, q1, q2]
      refine rR1 4 none (fun K hK => ?_)
      go_simp
      rw [set_same A6.out.b (j := 0) (v := .int .i64 a) rfl]
      refine hK.out _ _ rfl (fun _ => ?_)
      clear hK K
      try simp only [Act.put, q0, q1, q2]
      refine rR1 5 none (fun K hK => ?_)
      go_simp
      rw [set_same A6.out.c (j := 0) (v := .int .i64 er) rfl]
      refine hK.out _ _ rfl (fun _ => ?_)
      clear hK K
      try simp only [Act.put, q0, q1, q2]
      refine wpAnyH_done (by kernel_rfl) ?_ _
      go_wp2_with fail
      exact ⟨.tuple #[.agg #[.int .i64 0, .int .i64 0, .int .i64 0, .string ⟨#[]⟩, .bool false, .slice none 0 0], .int .i64 a, .int .i64 er], by simp [results, Tryz.results32, go_sem, *], rfl, A6.out.below⟩
  · go_simp
    refine hK.out _ _ rfl (fun _ => ?_)
    clear hK K
    try simp only [Act.put, q0, q1, q2]
    refine rR2 0 (some 17) 1 (some 18) (fun K hK => ?_) (fun K hK => ?_)
    · go_simp
      refine hK.out _ _ rfl (fun _ => ?_)
      clear hK K
      try simp only [Act.put, q0, q1, q2]
      refine rR2 1 (some 18) 3 none (fun K hK => ?_) (fun K hK => ?_)
      · go_simp
        refine hK.out _ _ rfl (fun _ => ?_)
        clear hK K
        try simp only [Act.put, q0, q1, q2]
        refine rR1 3 none (fun K hK => ?_)
        go_simp
        rw [set_same A6.out.a (j := 0) (v := .int .i64 0) rfl, set_same A6.out.a (j := 1) (v := .int .i64 0) rfl, set_same A6.out.a (j := 2) (v := .int .i64 0) rfl, set_same A6.out.a (j := 3) (v := .string ⟨#[]⟩) rfl, set_same A6.out.a (j := 4) (v := .bool false) rfl, set_same A6.out.a (j := 5) (v := .slice none 0 0) rfl]
        refine hK.out _ _ rfl (fun _ => ?_)
        clear hK K
        try simp only [Act.put, q0, q1, q2]
        refine rR1 4 none (fun K hK => ?_)
        go_simp
        rw [set_same A6.out.b (j := 0) (v := .int .i64 a) rfl]
        refine hK.out _ _ rfl (fun _ => ?_)
        clear hK K
        try simp only [Act.put, q0, q1, q2]
        refine rR1 5 none (fun K hK => ?_)
        go_simp
        rw [set_same A6.out.c (j := 0) (v := .int .i64 er) rfl]
        refine hK.out _ _ rfl (fun _ => ?_)
        clear hK K
        try simp only [Act.put, q0, q1, q2]
        refine wpAnyH_done (by kernel_rfl) ?_ _
        go_wp2_with fail
        exact ⟨.tuple #[.agg #[.int .i64 0, .int .i64 0, .int .i64 0, .string ⟨#[]⟩, .bool false, .slice none 0 0], .int .i64 a, .int .i64 er], by simp [results, Tryz.results32, go_sem, *], rfl, A6.out.below⟩
      · go_simp
        rw [set_same A6.out.a (j := 0) (v := .int .i64 0) rfl, set_same A6.out.a (j := 1) (v := .int .i64 0) rfl, set_same A6.out.a (j := 2) (v := .int .i64 0) rfl, set_same A6.out.a (j := 3) (v := .string ⟨#[]⟩) rfl, set_same A6.out.a (j := 4) (v := .bool false) rfl, set_same A6.out.a (j := 5) (v := .slice none 0 0) rfl]
        refine hK.out _ _ rfl (fun _ => ?_)
        clear hK K
        try simp only [Act.put, q0, q1, q2]
        refine rR1 1 (some 18) (fun K hK => ?_)
        go_simp
        refine hK.out _ _ rfl (fun _ => ?_)
        clear hK K
        try simp only [Act.put, q0, q1, q2]
        refine rR1 4 none (fun K hK => ?_)
        go_simp
        rw [set_same A6.out.b (j := 0) (v := .int .i64 a) rfl]
        refine hK.out _ _ rfl (fun _ => ?_)
        clear hK K
        try simp only [Act.put, q0, q1, q2]
        refine rR1 5 none (fun K hK => ?_)
        go_simp
        rw [set_same A6.out.c (j := 0) (v := .int .i64 er) rfl]
        refine hK.out _ _ rfl (fun _ => ?_)
        clear hK K
        try simp only [Act.put, q0, q1, q2]
        refine wpAnyH_done (by kernel_rfl) ?_ _
        go_wp2_with fail
        exact ⟨.tuple #[.agg #[.int .i64 0, .int .i64 0, .int .i64 0, .string ⟨#[]⟩, .bool false, .slice none 0 0], .int .i64 a, .int .i64 er], by simp [results, Tryz.results32, go_sem, *], rfl, A6.out.below⟩
    · go_simp
      refine hK.out _ _ rfl (fun _ => ?_)
      clear hK K
      try simp only [Act.put, q0, q1, q2]
      refine rR1 0 (some 17) (fun K hK => ?_)
      go_simp
      refine hK.out _ _ rfl (fun _ => ?_)
      clear hK K
      try simp only [Act.put, q0, q1, q2]
      refine rR1 3 none (fun K hK => ?_)
      go_simp
      rw [set_same A6.out.a (j := 0) (v := .int .i64 0) rfl, set_same A6.out.a (j := 1) (v := .int .i64 0) rfl, set_same A6.out.a (j := 2) (v := .int .i64 0) rfl, set_same A6.out.a (j := 3) (v := .string ⟨#[]⟩) rfl, set_same A6.out.a (j := 4) (v := .bool false) rfl, set_same A6.out.a (j := 5) (v := .slice none 0 0) rfl]
      refine hK.out _ _ rfl (fun _ => ?_)
      clear hK K
      try simp only [Act.put, q0, q1, q2]
      refine rR1 4 none (fun K hK => ?_)
      go_simp
      rw [set_same A6.out.b (j := 0) (v := .int .i64 a) rfl]
      refine hK.out _ _ rfl (fun _ => ?_)
      clear hK K
      try simp only [Act.put, q0, q1, q2]
      refine rR1 5 none (fun K hK => ?_)
      go_simp
      rw [set_same A6.out.c (j := 0) (v := .int .i64 er) rfl]
      refine hK.out _ _ rfl (fun _ => ?_)
      clear hK K
      try simp only [Act.put, q0, q1, q2]
      refine wpAnyH_done (by kernel_rfl) ?_ _
      go_wp2_with fail
      exact ⟨.tuple #[.agg #[.int .i64 0, .int .i64 0, .int .i64 0, .string ⟨#[]⟩, .bool false, .slice none 0 0], .int .i64 a, .int .i64 er], by simp [results, Tryz.results32, go_sem, *], rfl, A6.out.below⟩
end Go.Proofs.YtdckddkalgnlpaaGreatDoor
namespace Go.Proofs.YtdckddkalgnlpaaGreatDoor
open Go.RowKit
/-- the value reads as the element -/
def ReadE (W : World) (x : Tr.E) (a : Value) : Prop := BdE x ∧ SlE W a x.args
theorem ReadE.keep {w w' : World} {x : Tr.E} {a : Value} (h : ReadE w x a) (hb : Below w.heap.size w w') : ReadE w' x a := ⟨h.1, h.2.keep hb⟩
end Go.Proofs.YtdckddkalgnlpaaGreatDoor
namespace Go.Proofs.YtdckddkalgnlpaaGreatDoor
open Go.RowKit
/-- the value reads as the element -/
def ReadS (W : World) (x : Tr.S) (a1 a2 a3 : Value) : Prop := BdS x ∧ SlE W a1 x.exprs ∧ SlS W a2 x.body ∧ SlS W a3 x.els
theorem ReadS.keep {w w' : World} {x : Tr.S} {a1 a2 a3 : Value} (h : ReadS w x a1 a2 a3) (hb : Below w.heap.size w w') : ReadS w' x a1 a2 a3 := ⟨h.1, h.2.1.keep hb, h.2.2.1.keep hb, h.2.2.2.keep hb⟩
end Go.Proofs.YtdckddkalgnlpaaGreatDoor
namespace Go.Proofs.YtdckddkalgnlpaaGreatDoor
open Go.RowKit
/-- the table of the forms of statements -/
def formCells : List Value := [.int .i64 1, .int .i64 1, .bool true, .bool false, .bool false, .int .i64 1, .int .i64 1, .bool true, .bool false, .bool false, .int .i64 2, .int .i64 2, .bool true, .bool false, .bool false, .int .i64 1, .int .i64 1, .bool false, .bool true, .bool true, .int .i64 1, .int .i64 1, .bool false, .bool true, .bool false, .int .i64 1, .int .i64 4611686018427387904, .bool true, .bool false, .bool false, .int .i64 1, .int .i64 1, .bool false, .bool false, .bool false, .int .i64 2, .int .i64 2, .bool false, .bool false, .bool false, .int .i64 2, .int .i64 2, .bool true, .bool false, .bool false, .int .i64 0, .int .i64 0, .bool false, .bool false, .bool false]
/-- what the walks of package syntax ask of memory -/
structure SynEnv (w : World) : Prop where
  lex : LexEnv w
  forms : ∀ (j : Nat) (u : Value), formCells[j]? = some u → w.cell? ⟨0, j, none⟩ = some u
theorem SynEnv.keep {w w' : World} (h : SynEnv w) (hb : Below w.heap.size w w') : SynEnv w' := ⟨h.lex.keep hb, fun j u hu => cell_keep' hb (h.forms j u hu)⟩
end Go.Proofs.YtdckddkalgnlpaaGreatDoor
namespace Go.Proofs.YtdckddkalgnlpaaGreatDoor
open Go.RowKit
/-- the value reads as the element -/
def ReadN (_W : World) (x : ByteArray) : Prop := x.size ≤ maxLen
theorem ReadN.keep {w w' : World} {x : ByteArray} (h : ReadN w x ) (_hb : Below w.heap.size w w') : ReadN w' x  := h
end Go.Proofs.YtdckddkalgnlpaaGreatDoor
namespace Go.Proofs.YtdckddkalgnlpaaGreatDoor
open Go.RowKit
/-- the value reads as the element -/
def ReadM (W : World) (x : Tr.M) (a1 a2 : Value) : Prop := x.name.size ≤ maxLen ∧ SlStr W a1 x.params ∧ SlS W a2 x.body
theorem ReadM.keep {w w' : World} {x : Tr.M} {a1 a2 : Value} (h : ReadM w x a1 a2) (hb : Below w.heap.size w w') : ReadM w' x a1 a2 := ⟨h.1, h.2.1.keep hb, h.2.2.keep hb⟩
end Go.Proofs.YtdckddkalgnlpaaGreatDoor
namespace Go.Proofs.YtdckddkalgnlpaaGreatDoor
open Go.RowKit
/-- the value reads as the element -/
def ReadC (W : World) (x : Tr.C) (a1 a2 : Value) : Prop := x.name.size ≤ maxLen ∧ SlStr W a1 x.fields ∧ SlM W a2 x.methods
theorem ReadC.keep {w w' : World} {x : Tr.C} {a1 a2 : Value} (h : ReadC w x a1 a2) (hb : Below w.heap.size w w') : ReadC w' x a1 a2 := ⟨h.1, h.2.1.keep hb, h.2.2.keep hb⟩
end Go.Proofs.YtdckddkalgnlpaaGreatDoor
namespace Go.Proofs.YtdckddkalgnlpaaGreatDoor
open Go.RowKit
/-- what chapter 38's functions read of the package-level variables -/
structure SyEnv (w : World) : Prop where
  syn : SynEnv w
  pr : PrEnv w
theorem PrEnv.keep {w w' : World} (h : PrEnv w) (hb : Below w.heap.size w w') : PrEnv w' := ⟨fun o ho => ⟨cell_keep' hb (h.ops o ho).1, cell_keep' hb (h.ops o ho).2⟩, tab_keep h.tab hb⟩
theorem SyEnv.keep {w w' : World} (h : SyEnv w) (hb : Below w.heap.size w w') : SyEnv w' := ⟨h.syn.keep hb, h.pr.keep hb⟩
end Go.Proofs.YtdckddkalgnlpaaGreatDoor
namespace Go.Proofs.YtdckddkalgnlpaaGreatDoor
open Go.RowKit Go.Maps
theorem SlStr.get {w : World} {p : Option Addr} {n c : Nat} {l : List ByteArray} (h : SlStr w (.slice p n c) l) {j : Nat} {s : ByteArray} (hj : l[j]? = some s) :
    ∃ b o, p = some ⟨b, o, none⟩ ∧ b < w.heap.size ∧ w.cell? ⟨b, o + j, none⟩ = some (.string s) := by
  obtain ⟨p', c', e, _, _, hx⟩ := h
  cases e
  obtain ⟨_, b, o, h2, h3, h4⟩ := hx j s hj
  exact ⟨b, o, h2, h3, h4⟩
theorem CellsM.keep {w w' : World} {b o : Nat} {m : Tr.M} {x y : Value} (h : CellsM w b o m x y) (hb : Below w.heap.size w w') : CellsM w' b o m x y :=
  ⟨cell_keep' hb h.1, cell_keep' hb h.2.1, cell_keep' hb h.2.2⟩
end Go.Proofs.YtdckddkalgnlpaaGreatDoor
namespace Go.Proofs.YtdckddkalgnlpaaGreatDoor
open Go.RowKit Go.Maps
theorem sum_take {α : Type} (g : α → Nat) {ls : List α} {j : Nat} {s : α} (h : ls[j]? = some s) : ((ls.take (j + 1)).map g).sum = ((ls.take j).map g).sum + g s := by
  rw [List.take_add_one, h]; simp
theorem sum_le {α : Type} (g : α → Nat) (ls : List α) (j : Nat) : ((ls.take j).map g).sum ≤ (ls.map g).sum := by
  have h : (ls.map g).sum = ((ls.take j).map g).sum + ((ls.drop j).map g).sum := by rw [← List.sum_append, ← List.map_append, List.take_append_drop]
  rw [h]; omega
namespace Sy
def argsZ (e : Tr.E) : Nat := sizeEs e.args
theorem sizeE_args (e : Tr.E) : sizeE e = 1 + argsZ e := by cases e; rw [sizeE]; rfl
theorem sizeEs_sum : ∀ ls : List Tr.E, sizeEs ls = ls.length + (ls.map argsZ).sum
  | [] => by rw [sizeEs]; rfl
  | e :: r => by rw [sizeEs, sizeEs_sum r, sizeE_args, List.length_cons, List.map_cons, List.sum_cons]; omega
theorem sizeEs_sumE : ∀ ls : List Tr.E, sizeEs ls = (ls.map sizeE).sum
  | [] => by rw [sizeEs]; rfl
  | e :: r => by rw [sizeEs, sizeEs_sumE r, List.map_cons, List.sum_cons]
end Sy
theorem E_deep_eq (x : Tr.E) : x.deep = 1 + Tr.E.deep.deeps x.args := by cases x; rw [Tr.E.deep]; rfl
set_option maxRecDepth 100000 in
set_option maxHeartbeats 4000000 in
theorem exprSize_any : ∀ (d : Nat) (ls : List Tr.E) (p : Option Addr) (N c : Nat) (w : World), Tr.E.deep.deeps ls < d → ls.length = N → SlE w (.slice p N c) ls → Sy.sizeEs ls ≤ 1000000000 →
    Calls Tryz.prog 112 #[.slice p N c] w fun r w' => r = .returned (.int .i64 (Sy.sizeEs ls : Nat)) ∧ Below w.heap.size w w' := by
  intro d
  induction d with
  | zero => intro ls p N c w hd; omega
  | succ d ih =>
    intro ls p N c w hd hN hS hz
    have hn6 : N ≤ 9223372036854775807 := by
      have := hS.len
      rw [hN] at this
      unfold maxLen at this
      exact this
    have hsum := Sy.sizeEs_sum ls
    rw [hN] at hsum
    have HS := Lib.hid hS
    have HN := Lib.hid hN
    have HD := Lib.hid hd
    have HIH := Lib.hid ih
    have HZ := Lib.hid hz
    have HSUM := Lib.hid hsum
    clear ih hS hN hd hz hsum
    go_enter Tryz.func112, Tryz.ntmps112
    go_wp2_with fail
    go_loopg [3, 5, 10] N (fun g s3 s5 s10 wr => ∃ (j M : Nat), s10 = .int .i64 j ∧ j ≤ N ∧ g = N - j ∧ s3 = .int .i64 M ∧ M = N + ((ls.take j).map Sy.argsZ).sum ∧ Hid (Below w.heap.size w wr))
    case atStart => exact ⟨0, N, rfl, Nat.zero_le _, rfl, rfl, rfl, Below.refl _ _⟩
    case round =>
      obtain ⟨j, M, rfl, hj, rfl, rfl, hM, HB⟩ := hrel
      by_cases hlt : j < N
      · obtain ⟨x, hx⟩ : ∃ x, ls[j]? = some x := ⟨_, List.getElem?_eq_getElem (by rw [HN.out]; exact hlt)⟩
        obtain ⟨b', o', aa, rfl, _, hc, hbd, hsl⟩ := HS.out.get hx
        obtain ⟨pa, ca, rfl, _⟩ := hsl.form
        obtain ⟨AN, hAN⟩ : ∃ q, x.args.length = q := ⟨_, rfl⟩
        rw [hAN] at hsl hc
        obtain ⟨y0, y1, y2, y3, y4, y5⟩ := hc.keep HB.out
        have htk := sum_take Sy.argsZ hx
        have hle := sum_le Sy.argsZ ls (j + 1)
        rw [htk] at hle
        obtain ⟨Z, hZ⟩ : ∃ q, Sy.argsZ x = q := ⟨_, rfl⟩
        rw [hZ] at htk hle
        have hbx := HB.out.alloc HB.out.size (.cells #[.int .i64 x.kind, .int .i64 x.op, .int .i64 x.int, .string x.name, .bool x.at_, .slice pa AN ca] 33)
        obtain ⟨w4, hw4⟩ : ∃ q, q = wr.alloc (.cells #[.int .i64 x.kind, .int .i64 x.op, .int .i64 x.int, .string x.name, .bool x.at_, .slice pa AN ca] 33) := ⟨_, rfl⟩
        rw [← hw4] at hbx
        have hzz := HSUM.out
        have hzl := HZ.out
        have hdx := Tr.E.deeps_get ls j x hx
        have hde := E_deep_eq x
        have hcall := HIH.out x.args pa AN ca w4 (by have := HD.out; omega) hAN (hsl.keep hbx) (by show Sy.argsZ x ≤ _; rw [hZ]; omega)
        rw [show Sy.sizeEs x.args = Z from hZ] at hcall
        have HCALL := Lib.hid hcall
        have HBX := Lib.hid hbx
        have HW4 := Lib.hid hw4
        have HTK := Lib.hid htk
        have b3 : (j : Int) < (N : Int) := by omega
        have bw : IntKind.i64.wrap ((M : Int) + (Z : Int)) = (M : Int) + (Z : Int) := IntWalk.i64_in _ (by omega)
        have HM := Lib.hid hM
        have hl0 := cell_lt' y0
        clear hx hc hbd hsl hAN htk hle hbx hw4 hzz hzl hdx hde hcall hZ hM
        go_wp2_with fail
        rw [← HW4.out]
        refine HCALL.out.mono ?_
        rintro e' w5 ⟨rfl, hb5⟩
        have HB5 := Lib.hid (HBX.out.trans (hb5.mono HBX.out.size))
        clear hb5 y0 y1 y2 y3 y4 y5 hl0 HW4
        go_wp2_with fail
        go_roundg (N - (j + 1))
        case measure => omega
        case rel => exact ⟨j + 1, M + Z, by go_num, by omega, rfl, by go_num, by have h1 := HTK.out; have h2 := HM.out; omega, HB5⟩
      · obtain rfl : j = N := by omega
        have hfull : ls.take j = ls := List.take_of_length_le (by rw [HN.out]; exact Nat.le_refl _)
        rw [hfull, ← HSUM.out] at hM
        subst hM
        clear hfull
        go_wp2_with fail
        go_ret
        exact ⟨rfl, HB.out⟩
end Go.Proofs.YtdckddkalgnlpaaGreatDoor
namespace Go.Proofs.YtdckddkalgnlpaaGreatDoor
open Go.RowKit Go.Maps
namespace Sy
def restZ (s : Tr.S) : Nat := sizeEs s.exprs + sizeSs s.body + sizeSs s.els
theorem sizeS_rest (s : Tr.S) : sizeS s = 1 + restZ s := by
  obtain ⟨k, nm, x, b, l⟩ := s
  rw [sizeS]
  show _ = 1 + (sizeEs x + sizeSs b + sizeSs l)
  omega
theorem sizeSs_sum : ∀ ls : List Tr.S, sizeSs ls = ls.length + (ls.map restZ).sum
  | [] => by rw [sizeSs]; rfl
  | e :: r => by rw [sizeSs, sizeSs_sum r, sizeS_rest, List.length_cons, List.map_cons, List.sum_cons]; omega
end Sy
theorem S_deep_eq (x : Tr.S) : x.deep = 1 + max (Tr.S.deep.deeps x.body) (Tr.S.deep.deeps x.els) := by cases x; rw [Tr.S.deep]; rfl
theorem bl_of {w0 w : World} {a b c : Prop} (h : a ∧ b ∧ c ∧ Hid (Below w0.heap.size w0 w)) : Below w0.heap.size w0 w := h.2.2.2.out
theorem sz_keep {w0 w w' : World} {B : Nat} {x y z : Value} (h : w.cell? ⟨B, 2, none⟩ = some x ∧ w.cell? ⟨B, 3, none⟩ = some y ∧ w.cell? ⟨B, 4, none⟩ = some z ∧ Hid (Below w0.heap.size w0 w)) (hb : Below w.heap.size w w') :
    w'.cell? ⟨B, 2, none⟩ = some x ∧ w'.cell? ⟨B, 3, none⟩ = some y ∧ w'.cell? ⟨B, 4, none⟩ = some z ∧ Hid (Below w0.heap.size w0 w') :=
  ⟨cell_keep' hb h.1, cell_keep' hb h.2.1, cell_keep' hb h.2.2.1, h.2.2.2.out.trans (hb.mono h.2.2.2.out.size)⟩
set_option maxRecDepth 100000 in
set_option maxHeartbeats 8000000 in
theorem stmtSize_any : ∀ (d : Nat) (ls : List Tr.S) (p : Option Addr) (N c : Nat) (w : World), Tr.S.deep.deeps ls < d → ls.length = N → SlS w (.slice p N c) ls → Sy.sizeSs ls ≤ 1000000000 →
    Calls Tryz.prog 61 #[.slice p N c] w fun r w' => r = .returned (.int .i64 (Sy.sizeSs ls : Nat)) ∧ Below w.heap.size w w' := by
  intro d
  induction d with
  | zero => intro ls p N c w hd; omega
  | succ d ih =>
    intro ls p N c w hd hN hS hz
    have hn6 : N ≤ 9223372036854775807 := by
      have := hS.len
      rw [hN] at this
      unfold maxLen at this
      exact this
    have hsum := Sy.sizeSs_sum ls
    rw [hN] at hsum
    have HS := Lib.hid hS
    have HN := Lib.hid hN
    have HD := Lib.hid hd
    have HIH := Lib.hid ih
    have HZ := Lib.hid hz
    have HSUM := Lib.hid hsum
    clear ih hS hN hd hz hsum
    go_enter Tryz.func61, Tryz.ntmps61
    go_wp2_with fail
    go_loopg [3, 5, 10] N (fun g s3 s5 s10 wr => ∃ (j M : Nat), s10 = .int .i64 j ∧ j ≤ N ∧ g = N - j ∧ s3 = .int .i64 M ∧ M = N + ((ls.take j).map Sy.restZ).sum ∧ Hid (Below w.heap.size w wr))
    case atStart => exact ⟨0, N, rfl, Nat.zero_le _, rfl, rfl, rfl, Below.refl _ _⟩
    case round =>
      obtain ⟨j, M, rfl, hj, rfl, rfl, hM, HB⟩ := hrel
      by_cases hlt : j < N
      · obtain ⟨s, hx⟩ : ∃ x, ls[j]? = some x := ⟨_, List.getElem?_eq_getElem (by rw [HN.out]; exact hlt)⟩
        obtain ⟨b', o', vx, vy, vz, rfl, _, hc, hbd, hsx, hsy, hsz⟩ := HS.out.get hx
        obtain ⟨px, cx, rfl, _⟩ := hsx.form
        obtain ⟨py, cy, rfl, _⟩ := hsy.form
        obtain ⟨pz, cz, rfl, _⟩ := hsz.form
        obtain ⟨XN, hXN⟩ : ∃ q, s.exprs.length = q := ⟨_, rfl⟩
        obtain ⟨YN, hYN⟩ : ∃ q, s.body.length = q := ⟨_, rfl⟩
        obtain ⟨ZN, hZN⟩ : ∃ q, s.els.length = q := ⟨_, rfl⟩
        rw [hXN] at hsx hc
        rw [hYN] at hsy hc
        rw [hZN] at hsz hc
        obtain ⟨y0, y1, y2, y3, y4⟩ := hc.keep HB.out
        have htk := sum_take Sy.restZ hx
        have hle := sum_le Sy.restZ ls (j + 1)
        rw [htk] at hle
        obtain ⟨X, hX⟩ : ∃ q, Sy.sizeEs s.exprs = q := ⟨_, rfl⟩
        obtain ⟨Y, hY⟩ : ∃ q, Sy.sizeSs s.body = q := ⟨_, rfl⟩
        obtain ⟨Z, hZ⟩ : ∃ q, Sy.sizeSs s.els = q := ⟨_, rfl⟩
        have hr : Sy.restZ s = X + Y + Z := by unfold Sy.restZ; rw [hX, hY, hZ]
        rw [hr] at htk hle
        have hbx := HB.out.alloc HB.out.size (.cells #[.int .i64 s.kind, .string s.name, .slice px XN cx, .slice py YN cy, .slice pz ZN cz] 94)
        have hcv := (MapKept.heap_alloc wr (.cells #[.int .i64 s.kind, .string s.name, .slice px XN cx, .slice py YN cy, .slice pz ZN cz] 94)).1
        obtain ⟨BX, hBX⟩ : ∃ q, wr.heap.size = q := ⟨_, rfl⟩
        rw [hBX] at hcv
        have hzz := HSUM.out
        have hzl := HZ.out
        have hdx := Tr.S.deeps_get ls j s hx
        have hde := S_deep_eq s
        have hd2 := HD.out
        have KX : Hid (∀ W, Below w.heap.size w W → Calls Tryz.prog 112 #[.slice px XN cx] W fun r w' => r = .returned (.int .i64 X) ∧ Below W.heap.size W w') := by
          intro W hb
          have := exprSize_any _ s.exprs px XN cx W (Nat.lt_succ_self _) hXN (hsx.keep hb) (by rw [hX]; omega)
          rw [hX] at this
          exact this
        have KY : Hid (∀ W, Below w.heap.size w W → Calls Tryz.prog 61 #[.slice py YN cy] W fun r w' => r = .returned (.int .i64 Y) ∧ Below W.heap.size W w') := by
          intro W hb
          have := HIH.out s.body py YN cy W (by omega) hYN (hsy.keep hb) (by rw [hY]; omega)
          rw [hY] at this
          exact this
        have KZ : Hid (∀ W, Below w.heap.size w W → Calls Tryz.prog 61 #[.slice pz ZN cz] W fun r w' => r = .returned (.int .i64 Z) ∧ Below W.heap.size W w') := by
          intro W hb
          have := HIH.out s.els pz ZN cz W (by omega) hZN (hsz.keep hb) (by rw [hZ]; omega)
          rw [hZ] at this
          exact this
        have HTK := Lib.hid htk
        have b3 : (j : Int) < (N : Int) := by omega
        have bw1 : IntKind.i64.wrap ((X : Int) + (Y : Int)) = (X : Int) + (Y : Int) := IntWalk.i64_in _ (by omega)
        have bw2 : IntKind.i64.wrap ((X : Int) + (Y : Int) + (Z : Int)) = (X : Int) + (Y : Int) + (Z : Int) := IntWalk.i64_in _ (by omega)
        have bw3 : IntKind.i64.wrap ((M : Int) + ((X : Int) + (Y : Int) + (Z : Int))) = (M : Int) + ((X : Int) + (Y : Int) + (Z : Int)) := IntWalk.i64_in _ (by omega)
        have HM := Lib.hid hM
        have hl0 := cell_lt' y0
        clear hx hc hbd hsx hsy hsz hXN hYN hZN htk hle hzz hzl hdx hde hd2 hX hY hZ hr hM
        go_upto_region 5 with fail
        obtain ⟨w4, hw4⟩ : ∃ q, q = wr.alloc (.cells #[.int .i64 s.kind, .string s.name, .slice px XN cx, .slice py YN cy, .slice pz ZN cz] 94) := ⟨_, rfl⟩
        rw [← hw4] at hbx hcv ⊢
        try rw [hBX]
        have z2 := cell_of_blkP hcv (j := 2) (u := .slice px XN cx) rfl
        have z3 := cell_of_blkP hcv (j := 3) (u := .slice py YN cy) rfl
        have z4 := cell_of_blkP hcv (j := 4) (u := .slice pz ZN cz) rfl
        have HB4 := Lib.hid hbx
        have HBD : Hid (Below w.heap.size w w4.drew) := hbx.drew
        clear hbx hcv hw4 y0 y1 y2 y3 y4 hl0 hBX
        go_region_held3 (fun w' => w'.cell? ⟨BX, 2, none⟩ = some (.slice px XN cx) ∧ w'.cell? ⟨BX, 3, none⟩ = some (.slice py YN cy) ∧ w'.cell? ⟨BX, 4, none⟩ = some (.slice pz ZN cz) ∧ Hid (Below w.heap.size w w')) (first | exact sz_keep (by assumption) hb | exact ⟨z2, z3, z4, HBD⟩ | go_keep) (first | (go_at_call 112; refine (KX.out _ (bl_of (by assumption))).mono ?_; rintro e w' ⟨rfl, hb⟩) | (go_at_call 61; (first | (with_reducible refine (KY.out _ (bl_of (by assumption))).mono ?_) | (with_reducible refine (KZ.out _ (bl_of (by assumption))).mono ?_)); rintro e w' ⟨rfl, hb⟩))
        go_wp2_with fail
        go_roundg (N - (j + 1))
        case measure => omega
        case rel =>
          refine ⟨j + 1, M + (X + Y + Z), by go_num, by omega, rfl, by go_num, by have h1 := HTK.out; have h2 := HM.out; omega, ?_⟩
          have h9 := bl_of (by assumption)
          exact Lib.hid h9
      · obtain rfl : j = N := by omega
        have hfull : ls.take j = ls := List.take_of_length_le (by rw [HN.out]; exact Nat.le_refl _)
        rw [hfull, ← HSUM.out] at hM
        subst hM
        clear hfull
        go_wp2_with fail
        go_ret
        exact ⟨rfl, HB.out⟩
end Go.Proofs.YtdckddkalgnlpaaGreatDoor
