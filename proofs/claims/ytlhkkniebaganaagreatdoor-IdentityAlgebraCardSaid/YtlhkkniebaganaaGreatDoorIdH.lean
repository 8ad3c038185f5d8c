/-
  Identities: strings.Cut at a colon, and the program's Parse, walked.
-/
import Derived.Test.YtlhkkniebaganaaGreatDoorIdG
namespace Go.Proofs.YtlhkkniebaganaaGreatDoor
open Go.RowKit

theorem indexByte_upTo : ∀ l : List UInt8, Lib.indexByte l 58 = if (Id.upTo l).length < l.length then ((Id.upTo l).length : Int) else -1
  | [] => by simp [Lib.indexByte, Id.upTo]
  | c :: l => by
    have ih := indexByte_upTo l
    by_cases h : c = 58
    · subst h
      have : Id.upTo (58 :: l) = [] := by simp [Id.upTo]
      rw [this]
      simp [Lib.indexByte]
    · have hu : Id.upTo (c :: l) = c :: Id.upTo l := by simp [Id.upTo, h]
      rw [hu, Lib.indexByte, if_neg (by simpa using h), ih, List.length_cons, List.length_cons]
      by_cases h2 : (Id.upTo l).length < l.length
      · have h3 : (Id.upTo l).length + 1 < l.length + 1 := by omega
        simp only [if_pos h2, if_pos h3]
        rw [if_neg (by simp)]
        omega
      · have h3 : ¬ (Id.upTo l).length + 1 < l.length + 1 := by omega
        simp only [if_neg h2, if_neg h3]
        simp
theorem upTo_all {l : List UInt8} (h : ¬ (Id.upTo l).length < l.length) : Id.upTo l = l := by
  have h1 : (Id.upTo l).Sublist l := List.takeWhile_sublist _
  exact h1.eq_of_length_le (by omega)
theorem upTo_le (l : List UInt8) : (Id.upTo l).length ≤ l.length := (List.takeWhile_sublist _).length_le
theorem upTo_take (l : List UInt8) : l.take (Id.upTo l).length = Id.upTo l := by
  have : (Id.upTo l) <+: l := List.takeWhile_prefix _
  exact (List.prefix_iff_eq_take.1 this).symm

theorem bytes_eq {a b : ByteArray} (h : a.data.toList = b.data.toList) : a = b := by rw [← Lib.mk_data a, ← Lib.mk_data b, h]
theorem ret_cut {a b c d : ByteArray} {x : Bool} (h1 : a = c) (h2 : b = d) : Ending.returned (.tuple #[.string a, .string b, .bool x]) = .returned (.tuple #[.string c, .string d, .bool x]) := by rw [h1, h2]

set_option maxHeartbeats 400000 in
theorem cutLite_any (s : ByteArray) (w : World) (hs : s.size ≤ 1000000) :
    Calls Tryz.prog 43 #[.string s, .string ⟨#[58]⟩] w fun e w' => e = .returned (.tuple #[.string ⟨(Id.upTo s.data.toList).toArray⟩, .string ⟨(s.data.toList.drop ((Id.upTo s.data.toList).length + 1)).toArray⟩, .bool (decide ((Id.upTo s.data.toList).length < s.data.toList.length))]) ∧ Below w.heap.size w w' := by
  have hI : ∀ w0, Calls Tryz.prog 58 #[.string s, .string ⟨#[58]⟩] w0 fun e w' => e = .returned (.int .i64 (Lib.indexByte s.data.toList 58)) ∧ w' = w0 := fun w0 => Tryz.stringslite_Index_one s 58 w0
  rw [indexByte_upTo] at hI
  have hle := upTo_le s.data.toList
  rw [← Lib.size_eq] at hle
  obtain ⟨n, hn⟩ : ∃ n, (Id.upTo s.data.toList).length = n := ⟨_, rfl⟩
  have hu := upTo_take s.data.toList
  by_cases h : (Id.upTo s.data.toList).length < s.data.toList.length
  · rw [if_pos h, hn] at hI
    rw [hn] at hle hu
    rw [decide_eq_true h, hn]
    have hlt : n < s.size := by rw [Lib.size_eq, ← hn]; exact h
    have w1 : IntKind.i64.wrap ((n : Int) + 1) = (n : Int) + 1 := IntWalk.i64_in _ (by omega)
    have w2 : (0 : Int) ≤ (n : Int) + 1 := by omega
    have w3 : ((n : Int) + 1).toNat = n + 1 := by omega
    have w4 : (n : Int) + 1 ≤ (s.size : Int) := by omega
    have HI := Lib.hid hI
    have HU := Lib.hid hu
    clear hI h hn hu
    go_enter Tryz.func43, Tryz.ntmps43
    go_wp2_with fail
    refine (HI.out _).mono ?_
    rintro e w' ⟨rfl, rfl⟩
    go_wp2_with fail
    go_quiet (fail)
    clear w1 w2 w3 w4
    go_wp2_with fail
    go_ret3
    refine ⟨ret_cut (bytes_eq ?_) (bytes_eq ?_), below_drewN (Below.refl _ _) _⟩
    · rw [Lib.extract_data]; simp [HU.out]
    · rw [Lib.extract_data]
      show List.take _ (List.drop _ _) = _
      rw [List.take_of_length_le (by rw [List.length_drop, ← Lib.size_eq]; omega)]
  · rw [if_neg h] at hI
    rw [decide_eq_false h]
    have ha := upTo_all h
    have HI := Lib.hid hI
    have HA := Lib.hid ha
    clear hI h hn hu ha hle
    go_enter Tryz.func43, Tryz.ntmps43
    go_wp2_with fail
    refine (HI.out _).mono ?_
    rintro e w' ⟨rfl, rfl⟩
    go_wp2_with fail
    go_ret3
    refine ⟨ret_cut ?_ ?_, Below.refl _ _⟩
    · rw [HA.out, Lib.mk_data]
    · rw [HA.out, List.drop_of_length_le (by omega)]
set_option maxHeartbeats 400000 in
theorem cut_any (s : ByteArray) (w : World) (hs : s.size ≤ 1000000) :
    Calls Tryz.prog 31 #[.string s, .string ⟨#[58]⟩] w fun e w' => e = .returned (.tuple #[.string ⟨(Id.upTo s.data.toList).toArray⟩, .string ⟨(s.data.toList.drop ((Id.upTo s.data.toList).length + 1)).toArray⟩, .bool (decide ((Id.upTo s.data.toList).length < s.data.toList.length))]) ∧ Below w.heap.size w w' := by
  have hC := cutLite_any s w hs
  obtain ⟨a, ha⟩ : ∃ a : ByteArray, ⟨(Id.upTo s.data.toList).toArray⟩ = a := ⟨_, rfl⟩
  obtain ⟨b, hb⟩ : ∃ b : ByteArray, ⟨(s.data.toList.drop ((Id.upTo s.data.toList).length + 1)).toArray⟩ = b := ⟨_, rfl⟩
  obtain ⟨d, hd⟩ : ∃ d, decide ((Id.upTo s.data.toList).length < s.data.toList.length) = d := ⟨_, rfl⟩
  rw [ha, hb, hd] at hC ⊢
  have HC := Lib.hid hC
  clear hC ha hb hd
  go_enter Tryz.func31, Tryz.ntmps31
  go_wp2_with fail
  refine HC.out.mono ?_
  rintro e w' ⟨rfl, hb⟩
  go_wp2_with fail
  go_ret3
  exact ⟨rfl, hb⟩

/-- what Parse makes of its parts -/
def parseOf (pre col f1 f2 : Bool) (v1 v2 : Int) : Id.I × Int := if (pre && col && f1 && f2) = true then (if Id.validB v1 v2 = true then ((v1, v2), 0) else ((0, 0), 2)) else ((0, 0), 3)
theorem validB_num {a b : List UInt8} (h1 : Id.numOk a = true) (h2 : Id.numOk b = true) : Id.validB (numV a) (numV b) = Id.validB (Id.value a) (Id.value b) ∧ (Id.validB (Id.value a) (Id.value b) = true → numV a = Id.value a ∧ numV b = Id.value b) := by
  unfold numV
  rw [if_pos h1, if_pos h2]
  unfold Id.validB
  by_cases c1 : Id.value a < 9223372036854775808 <;> by_cases c2 : Id.value b < 9223372036854775808
  · rw [if_pos c1, if_pos c2]; exact ⟨rfl, fun _ => ⟨rfl, rfl⟩⟩
  all_goals
    (first | rw [if_pos c1] | rw [if_neg c1])
    (first | rw [if_pos c2] | rw [if_neg c2])
    constructor
    · rw [Bool.eq_iff_iff, decide_eq_true_eq, decide_eq_true_eq]; omega
    · intro h; rw [decide_eq_true_eq] at h; omega
theorem parse_parts (c : UInt8) (r : List UInt8) (hc : c = 109) :
    Id.parse (c :: r) = parseOf true (decide ((Id.upTo r).length < r.length)) (Id.numOk (Id.upTo r)) (Id.numOk (r.drop ((Id.upTo r).length + 1))) (numV (Id.upTo r)) (numV (r.drop ((Id.upTo r).length + 1))) := by
  rw [Id.parse_cons]
  unfold parseOf
  by_cases h1 : (Id.upTo r).length < r.length <;> cases h2 : Id.numOk (Id.upTo r) <;> cases h3 : Id.numOk (r.drop ((Id.upTo r).length + 1)) <;> simp only [hc, h1, false_and, and_false, decide_true, decide_false, Bool.and_true, Bool.and_false, if_true, if_false, and_self, reduceCtorEq]
  obtain ⟨k1, k2⟩ := validB_num h2 h3
  rw [k1]
  by_cases h4 : Id.validB (Id.value (Id.upTo r)) (Id.value (r.drop ((Id.upTo r).length + 1))) = true
  · rw [if_pos h4, if_pos h4, (k2 h4).1, (k2 h4).2]
  · rw [if_neg h4, if_neg h4]

theorem ret_id {a b : Id.I} {x y : Int} (h1 : a = b) (h2 : x = y) : Ending.returned (.tuple #[.agg #[.int .i64 a.1, .int .i64 a.2], .int .i64 x]) = .returned (.tuple #[idV b, .int .i64 y]) := by rw [h1, h2]; rfl

theorem cell_new (w : World) (x y : Int) : (w.alloc (.cells #[.int .i64 x, .int .i64 y] 24)).cell? ⟨w.heap.size, 0, none⟩ = some (.int .i64 x) ∧ (w.alloc (.cells #[.int .i64 x, .int .i64 y] 24)).cell? ⟨w.heap.size, 1, none⟩ = some (.int .i64 y) ∧
    (w.alloc (.cells #[.int .i64 x, .int .i64 y] 24)).frozen? ⟨w.heap.size, 0, none⟩ = false ∧ (w.alloc (.cells #[.int .i64 x, .int .i64 y] 24)).frozen? ⟨w.heap.size, 1, none⟩ = false := by
  have h := heap_alloc_new w (.cells #[.int .i64 x, .int .i64 y] 24)
  exact ⟨by unfold World.cell?; simp only [h]; rfl, by unfold World.cell?; simp only [h]; rfl, by unfold World.frozen?; simp only [h]; rfl, by unfold World.frozen?; simp only [h]; rfl⟩

set_option maxRecDepth 100000 in
set_option maxHeartbeats 4000000 in
theorem parse_walk (s R A B : ByteArray) (pre col f1 f2 : Bool) (v1 v2 : Int) (w : World) (hE : IdEnv w)
    (h1 : ∀ w0, Calls Tryz.prog 30 #[.string s, .string ⟨#[109]⟩] w0 fun e w' => e = .returned (.tuple #[.string R, .bool pre]) ∧ w' = w0)
    (h2 : ∀ w0, Calls Tryz.prog 31 #[.string R, .string ⟨#[58]⟩] w0 fun e w' => e = .returned (.tuple #[.string A, .string B, .bool col]) ∧ Below w0.heap.size w0 w')
    (h3 : ∀ w0, IdEnv w0 → Calls Tryz.prog 32 #[.string A] w0 fun e w' => e = .returned (.tuple #[.int .i64 v1, .bool f1]) ∧ Below w0.heap.size w0 w')
    (h4 : ∀ w0, IdEnv w0 → Calls Tryz.prog 32 #[.string B] w0 fun e w' => e = .returned (.tuple #[.int .i64 v2, .bool f2]) ∧ Below w0.heap.size w0 w') :
    Calls Tryz.prog 16 #[.string s] w fun e w' => e = .returned (.tuple #[idV (parseOf pre col f1 f2 v1 v2).1, .int .i64 (parseOf pre col f1 f2 v1 v2).2]) ∧ Below w.heap.size w w' := by
  have H1 := Lib.hid h1
  have H2 := Lib.hid h2
  have H3 := Lib.hid h3
  have H4 := Lib.hid h4
  have HE := Lib.hid hE
  clear h1 h2 h3 h4 hE
  cases pre <;> cases col <;> cases f1 <;> cases f2
  all_goals
    go_enter Tryz.func16, Tryz.ntmps16
    go_wp2_with fail
    refine (H1.out _).mono ?_
    rintro e w' ⟨rfl, rfl⟩
    go_wp2_with fail
    refine (H2.out _).mono ?_
    rintro e w1 ⟨rfl, hb1⟩
    have ha0 := cell_new w 0 0
    have s0 : (w.alloc (.cells #[.int .i64 0, .int .i64 0] 24)).heap.size = w.heap.size + 1 := by simp
    have hbw := (Below.refl w.heap.size w).alloc (Nat.le_refl _) (.cells #[.int .i64 0, .int .i64 0] 24)
    have s1 := hb1.size
    rw [s0] at s1
    have HE1 := Lib.hid (HE.out.keep (hbw.trans (hb1.mono (by rw [s0]; omega))))
    have HB1 := Lib.hid hb1
    have HB0 := Lib.hid hbw
    clear hb1 s0 hbw
    go_wp2_with fail
    refine (H3.out _ HE1.out).mono ?_
    rintro e w2 ⟨rfl, hb2⟩
    have s2 := hb2.size
    have HE2 := Lib.hid (HE1.out.keep hb2)
    have HB2 := Lib.hid hb2
    clear hb2
    go_wp2_with fail
    refine (H4.out _ HE2.out).mono ?_
    rintro e w3 ⟨rfl, hb3⟩
    have s3 := hb3.size
    have hb03 : Below (w.alloc (.cells #[.int .i64 0, .int .i64 0] 24)).heap.size (w.alloc (.cells #[.int .i64 0, .int .i64 0] 24)) w3 := (HB1.out.trans (HB2.out.mono HB1.out.size)).trans (hb3.mono (Nat.le_trans HB1.out.size s2))
    have hlt : w.heap.size < (w.alloc (.cells #[.int .i64 0, .int .i64 0] 24)).heap.size := by simp
    have c0 := (hb03.cell (p := ⟨w.heap.size, 0, none⟩) hlt).trans ha0.1
    have c1 := (hb03.cell (p := ⟨w.heap.size, 1, none⟩) hlt).trans ha0.2.1
    have d0 := (hb03.frozen (p := ⟨w.heap.size, 0, none⟩) hlt).trans ha0.2.2.1
    have d1 := (hb03.frozen (p := ⟨w.heap.size, 1, none⟩) hlt).trans ha0.2.2.2
    have HBF := Lib.hid (HB0.out.trans (hb03.mono (by omega)))
    have HB3 := Lib.hid hb3
    clear hb3 hb03 ha0 hlt HE1 HE2
    go_wp2_with fail
  all_goals first
    | (refine bodyPost_ret (v := .tuple #[.agg #[.int .i64 0, .int .i64 0], .int .i64 3]) (by simp [results, Tryz.results16, go_sem, c0, c1]) rfl ⟨rfl, ?_⟩
       first | exact HBF.out | exact HBF.out.setCell (Nat.le_refl _) _ | exact (HBF.out.setCell (Nat.le_refl _) _).setCell (Nat.le_refl _) _)
    | skip
  have hn0 := cell_new w3 v1 v2
  have hlt3 : w3.heap.size < (w3.alloc (.cells #[.int .i64 v1, .int .i64 v2] 24)).heap.size := by simp
  have hbw3 := (Below.refl w3.heap.size w3).alloc (Nat.le_refl _) (.cells #[.int .i64 v1, .int .i64 v2] 24)
  have hws : w.heap.size < w3.heap.size := by omega
  have e0 := (hbw3.cell (p := ⟨w.heap.size, 0, none⟩) hws).trans c0
  have e1 := (hbw3.cell (p := ⟨w.heap.size, 1, none⟩) hws).trans c1
  have f0 := (hbw3.frozen (p := ⟨w.heap.size, 0, none⟩) hws).trans d0
  have f1 := (hbw3.frozen (p := ⟨w.heap.size, 1, none⟩) hws).trans d1
  clear c0 c1 d0 d1
  cases hv : Id.validB v1 v2
  all_goals
    have hV := valid_any v1 v2 (w3.alloc (.cells #[.int .i64 v1, .int .i64 v2] 24))
    rw [hv] at hV
    have HV := Lib.hid hv
    clear hv
    refine hV.mono ?_
    rintro e w4 ⟨rfl, hb4⟩
    have g0 := (hb4.cell (p := ⟨w3.heap.size, 0, none⟩) hlt3).trans hn0.1
    have g1 := (hb4.cell (p := ⟨w3.heap.size, 1, none⟩) hlt3).trans hn0.2.1
    have c0 := (hb4.cell (p := ⟨w.heap.size, 0, none⟩) (Nat.lt_trans hws hlt3)).trans e0
    have c1 := (hb4.cell (p := ⟨w.heap.size, 1, none⟩) (Nat.lt_trans hws hlt3)).trans e1
    have d0 := (hb4.frozen (p := ⟨w.heap.size, 0, none⟩) (Nat.lt_trans hws hlt3)).trans f0
    have d1 := (hb4.frozen (p := ⟨w.heap.size, 1, none⟩) (Nat.lt_trans hws hlt3)).trans f1
    have HB4 := Lib.hid ((HBF.out.trans (hbw3.mono (by omega))).trans (hb4.mono (by omega)))
    clear hb4 hn0 hbw3 e0 e1 f0 f1 hV hlt3
    go_wp2_with fail
  · refine bodyPost_ret (v := .tuple #[.agg #[.int .i64 0, .int .i64 0], .int .i64 2]) (by simp [results, Tryz.results16, go_sem, c0, c1]) rfl ⟨?_, ?_⟩
    · unfold parseOf; rw [HV.out]; rfl
    · first | exact HB4.out | exact HB4.out.setCell (Nat.le_refl _) _ | exact (HB4.out.setCell (Nat.le_refl _) _).setCell (Nat.le_refl _) _
  · refine bodyPost_ret (v := .tuple #[.agg #[.int .i64 v1, .int .i64 v2], .int .i64 0]) (by simp [results, Tryz.results16, go_sem, c0, c1]) rfl ⟨?_, ?_⟩
    · unfold parseOf; rw [HV.out]; rfl
    · first | exact HB4.out | exact HB4.out.setCell (Nat.le_refl _) _ | exact (HB4.out.setCell (Nat.le_refl _) _).setCell (Nat.le_refl _) _

theorem cutPrefix_any (s : ByteArray) (w : World) :
    Calls Tryz.prog 30 #[.string s, .string ⟨#[109]⟩] w fun e w' => e = .returned (.tuple #[.string ⟨(Lib.trimPrefix s.data.toList [109]).toArray⟩, .bool (Lib.hasPrefix s.data.toList [109])]) ∧ w' = w := Tryz.strings_CutPrefix s ⟨#[109]⟩ w

/-- Parse -/
theorem parse_any (s : ByteArray) (w : World) (hE : IdEnv w) (hs : s.size ≤ 1000) :
    Calls Tryz.prog 16 #[.string s] w fun e w' => e = .returned (.tuple #[idV (Id.parse s.data.toList).1, .int .i64 (Id.parse s.data.toList).2]) ∧ Below w.heap.size w w' := by
  obtain ⟨r, pre, hr, hpre, hlen, hspec⟩ : ∃ (r : List UInt8) (pre : Bool), Lib.trimPrefix s.data.toList [109] = r ∧ Lib.hasPrefix s.data.toList [109] = pre ∧ r.length ≤ 1000 ∧
      Id.parse s.data.toList = parseOf pre (decide ((Id.upTo r).length < r.length)) (Id.numOk (Id.upTo r)) (Id.numOk (r.drop ((Id.upTo r).length + 1))) (numV (Id.upTo r)) (numV (r.drop ((Id.upTo r).length + 1))) := by
    have hl : s.data.toList.length ≤ 1000 := by rw [← Lib.size_eq]; exact hs
    cases hx : s.data.toList with
    | nil => exact ⟨[], false, rfl, rfl, by simp, rfl⟩
    | cons c l =>
      rw [hx] at hl
      by_cases hc : c = 109
      · subst hc
        exact ⟨l, true, by simp [Lib.trimPrefix, Lib.hasPrefix], by simp [Lib.hasPrefix], by simp at hl; omega, parse_parts 109 l rfl⟩
      · refine ⟨c :: l, false, by simp [Lib.trimPrefix, Lib.hasPrefix, Ne.symm hc], by simp [Lib.hasPrefix, List.isPrefixOf, Ne.symm hc], hl, ?_⟩
        rw [Id.parse_cons, if_neg (fun h => hc h.1)]
        rfl
  have h1 := fun w0 => cutPrefix_any s w0
  rw [hr, hpre] at h1
  rw [hspec]
  have hul := upTo_le r
  exact parse_walk s ⟨r.toArray⟩ ⟨(Id.upTo r).toArray⟩ ⟨(r.drop ((Id.upTo r).length + 1)).toArray⟩ pre _ _ _ _ _ w hE h1
    (fun w0 => cut_any ⟨r.toArray⟩ w0 (by rw [Lib.size_eq]; show r.length ≤ _; omega))
    (fun w0 hE0 => number_any ⟨(Id.upTo r).toArray⟩ w0 hE0 (by rw [Lib.size_eq]; show (Id.upTo r).length ≤ _; omega))
    (fun w0 hE0 => number_any ⟨(r.drop ((Id.upTo r).length + 1)).toArray⟩ w0 hE0 (by rw [Lib.size_eq]; show (r.drop ((Id.upTo r).length + 1)).length ≤ _; rw [List.length_drop]; omega))
end Go.Proofs.YtlhkkniebaganaaGreatDoor
