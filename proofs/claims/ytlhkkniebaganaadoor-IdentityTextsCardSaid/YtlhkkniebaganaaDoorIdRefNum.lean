/-
  Identities: the reference's number, walked.
-/
import Derived.Test.YtlhkkniebaganaaDoorIdLawInverse
namespace Go.Proofs.YtlhkkniebaganaaDoor
open Go.RowKit

/-- the value of digits, capped at 10^15, as the reference counts it -/
def capV (l : List UInt8) : Nat := l.foldl (fun n c => min (10 * n + (c.toNat - 48)) 1000000000000000) 0
theorem capV_snoc (l : List UInt8) (c : UInt8) : capV (l ++ [c]) = min (10 * capV l + (c.toNat - 48)) 1000000000000000 := by unfold capV; rw [List.foldl_append]; rfl
theorem capV_eq : ∀ l : List UInt8, capV l = min (Id.value l) 1000000000000000 := by
  intro l
  induction l using Id.rev_ind with
  | h0 => rfl
  | h1 l c ih =>
    rw [capV_snoc, Id.value_snoc, ih]
    omega
theorem capV_le (l : List UInt8) : capV l ≤ 1000000000000000 := by rw [capV_eq]; omega
/-- the digits at the head -/
def dpre (l : List UInt8) : List UInt8 := l.takeWhile Id.digit
/-- what the reference's number returns -/
def rnum (l : List UInt8) : Int × Int := if 1 < (dpre l).length ∧ (l.headD 0).toNat = 48 then (0, 0) else ((capV (dpre l) : Nat), ((dpre l).length : Nat))
theorem dpre_le (l : List UInt8) : (dpre l).length ≤ l.length := (List.takeWhile_sublist _).length_le
theorem dpre_take (l : List UInt8) : l.take (dpre l).length = dpre l := by
  have : (dpre l) <+: l := List.takeWhile_prefix _
  exact (List.prefix_iff_eq_take.1 this).symm
theorem dpre_all (l : List UInt8) : ∀ c ∈ dpre l, Id.digit c = true := fun c hc => List.all_eq_true.1 (List.all_takeWhile (p := Id.digit) (l := l)) c hc
/-- the first k bytes are digits, the next one is none -/
theorem dpre_end {l : List UInt8} {k : Nat} (hk : k ≤ l.length) (h1 : ∀ j, j < k → Id.digit (l.getD j 0) = true) (h2 : k < l.length → Id.digit (l.getD k 0) = false) : dpre l = l.take k := by
  unfold dpre
  induction l generalizing k with
  | nil => simp at hk; subst hk; rfl
  | cons a l ih =>
    cases k with
    | zero =>
      have := h2 (by simp)
      simp at this
      simp [this]
    | succ k =>
      have h0 := h1 0 (by omega)
      simp at h0
      rw [List.takeWhile_cons, if_pos h0, List.take_succ_cons]
      congr 1
      refine ih (by simpa using hk) (fun j hj => ?_) (fun hlt => ?_)
      · have := h1 (j + 1) (by omega); simpa using this
      · have := h2 (by simpa using hlt); simpa using this
theorem get_getD (s : ByteArray) (k : Nat) (h : k < s.size) : s[k] = s.data.toList.getD k 0 := by
  have h' : k < s.data.size := h
  rw [List.getD_eq_getElem?_getD, Array.getElem?_toList, Array.getElem?_eq_getElem h']
  rfl
theorem take_snoc (s : ByteArray) (k : Nat) (h : k < s.size) : s.data.toList.take (k + 1) = s.data.toList.take k ++ [s[k]] := by
  rw [List.take_succ_eq_append_getElem (by simpa using h)]; rfl
theorem ret_two {a b c d : Int} (h1 : a = c) (h2 : b = d) : Ending.returned (.tuple #[.int .i64 a, .int .i64 b]) = .returned (.tuple #[.int .i64 c, .int .i64 d]) := by rw [h1, h2]

set_option maxRecDepth 100000 in
set_option maxHeartbeats 1000000 in
theorem rnumber_any (s : ByteArray) (w : World) (hs : s.size ≤ 1000000) :
    Calls Tryd.prog 26 #[.string s] w fun e w' => e = .returned (.tuple #[.int .i64 (rnum s.data.toList).1, .int .i64 (rnum s.data.toList).2]) ∧ w = w' := by
  go_enter Tryd.func26, Tryd.ntmps26
  go_wp2
  go_loop [4, 5] (fun n i => ∃ k : Nat, k ≤ s.size ∧ i = .int .i64 k ∧ n = .int .i64 ((capV (s.data.toList.take k) : Nat) : Int) ∧ Hid (∀ j, j < k → Id.digit (s.data.toList.getD j 0) = true)) (fun _ i => s.size - (intOf i).toNat)
  case atStart => exact ⟨0, Nat.zero_le _, rfl, rfl, fun j hj => by omega⟩
  case round =>
    obtain ⟨k, hk, rfl, rfl, hd⟩ := hrel
    have hcl := capV_le (s.data.toList.take k)
    obtain ⟨v, hv⟩ : ∃ v, capV (s.data.toList.take k) = v := ⟨_, rfl⟩
    have HV := Lib.hid hv
    rw [hv] at hcl ⊢
    clear hv
    by_cases hlt : k < s.size
    · by_cases hdig : Id.digit s[k] = true
      · have hb : 48 ≤ s[k].toNat ∧ s[k].toNat ≤ 57 := of_decide_eq_true hdig
        have HSN : Hid (capV (s.data.toList.take (k + 1)) = min (10 * v + (s[k].toNat - 48)) 1000000000000000) := Lib.hid (by rw [take_snoc s k hlt, capV_snoc, HV.out])
        have HD : Hid (∀ j, j < k + 1 → Id.digit (s.data.toList.getD j 0) = true) := Lib.hid (fun j hj => by
          by_cases e : j = k
          · rw [e, ← get_getD s k hlt]; exact hdig
          · exact hd.out j (by omega))
        have b1 : (48 : Int) ≤ (s[k].toNat : Int) := by omega
        have b2 : (s[k].toNat : Int) ≤ 57 := by omega
        clear hdig hd
        go_wp2
        go_round
        case rel =>
          refine ⟨k + 1, by omega, by go_num, ?_, HD⟩
          rw [HSN.out]
          congr 1
          omega
        case measure => simp [intOf]; omega
      · have hbn : ¬ (48 ≤ s[k].toNat ∧ s[k].toNat ≤ 57) := fun h => hdig (decide_eq_true h)
        have hdp : dpre s.data.toList = s.data.toList.take k := dpre_end (by rw [← Lib.size_eq]; exact hk) hd.out (fun _ => by rw [← get_getD s k hlt]; exact Bool.eq_false_iff.2 hdig)
        have HDP := Lib.hid hdp
        clear hdp hdig hd
        rcases Nat.lt_or_ge s[k].toNat 48 with g1 | g1
        · have g2 : (s[k].toNat : Int) < 48 := by omega
          clear hbn g1
          have hlen : (dpre s.data.toList).length = k := by rw [HDP.out, List.length_take, ← Lib.size_eq]; omega
          have hrn : rnum s.data.toList = (if 1 < k ∧ (s.data.toList.headD 0).toNat = 48 then ((0 : Int), (0 : Int)) else ((v : Int), (k : Int))) := by
            unfold rnum
            rw [hlen, HDP.out, HV.out]
          have HRN := Lib.hid hrn
          clear hlen hrn
          by_cases h1 : 1 < k
          · have hp : 0 < s.size := by omega
            have hz : s[0] = s.data.toList.headD 0 := by
              rw [get_getD s 0 hp]
              cases s.data.toList <;> rfl
            by_cases h2 : (s.data.toList.headD 0).toNat = 48
            · have e4 : ((s[0].toNat : Int) == 48) = true := by rw [hz, h2]; rfl
              have H2 := Lib.hid h2
              clear hz h2
              go_wp2
              go_ret2
              exact ⟨ret_two (by rw [HRN.out, if_pos ⟨h1, H2.out⟩]) (by rw [HRN.out, if_pos ⟨h1, H2.out⟩]), rfl⟩
            · have e4 : ((s[0].toNat : Int) == 48) = false := by rw [hz, beq_eq_false_iff_ne]; omega
              have H2 := Lib.hid h2
              clear hz h2
              go_wp2
              go_ret2
              exact ⟨ret_two (by rw [HRN.out, if_neg (fun h => H2.out h.2)]) (by rw [HRN.out, if_neg (fun h => H2.out h.2)]), rfl⟩
          · go_wp2
            go_ret2
            exact ⟨ret_two (by rw [HRN.out, if_neg (fun h => h1 h.1)]) (by rw [HRN.out, if_neg (fun h => h1 h.1)]), rfl⟩
        · have g2 : (48 : Int) ≤ (s[k].toNat : Int) := by omega
          have g3 : (57 : Int) < (s[k].toNat : Int) := by omega
          clear hbn g1
          have hlen : (dpre s.data.toList).length = k := by rw [HDP.out, List.length_take, ← Lib.size_eq]; omega
          have hrn : rnum s.data.toList = (if 1 < k ∧ (s.data.toList.headD 0).toNat = 48 then ((0 : Int), (0 : Int)) else ((v : Int), (k : Int))) := by
            unfold rnum
            rw [hlen, HDP.out, HV.out]
          have HRN := Lib.hid hrn
          clear hlen hrn
          by_cases h1 : 1 < k
          · have hp : 0 < s.size := by omega
            have hz : s[0] = s.data.toList.headD 0 := by
              rw [get_getD s 0 hp]
              cases s.data.toList <;> rfl
            by_cases h2 : (s.data.toList.headD 0).toNat = 48
            · have e4 : ((s[0].toNat : Int) == 48) = true := by rw [hz, h2]; rfl
              have H2 := Lib.hid h2
              clear hz h2
              go_wp2
              go_ret2
              exact ⟨ret_two (by rw [HRN.out, if_pos ⟨h1, H2.out⟩]) (by rw [HRN.out, if_pos ⟨h1, H2.out⟩]), rfl⟩
            · have e4 : ((s[0].toNat : Int) == 48) = false := by rw [hz, beq_eq_false_iff_ne]; omega
              have H2 := Lib.hid h2
              clear hz h2
              go_wp2
              go_ret2
              exact ⟨ret_two (by rw [HRN.out, if_neg (fun h => H2.out h.2)]) (by rw [HRN.out, if_neg (fun h => H2.out h.2)]), rfl⟩
          · go_wp2
            go_ret2
            exact ⟨ret_two (by rw [HRN.out, if_neg (fun h => h1 h.1)]) (by rw [HRN.out, if_neg (fun h => h1 h.1)]), rfl⟩
    · have hke : s.size ≤ k := by omega
      have hdp : dpre s.data.toList = s.data.toList.take k := dpre_end (by rw [← Lib.size_eq]; exact hk) hd.out (fun h => by rw [← Lib.size_eq] at h; omega)
      have HDP := Lib.hid hdp
      clear hdp hd
      have hlen : (dpre s.data.toList).length = k := by rw [HDP.out, List.length_take, ← Lib.size_eq]; omega
      have hrn : rnum s.data.toList = (if 1 < k ∧ (s.data.toList.headD 0).toNat = 48 then ((0 : Int), (0 : Int)) else ((v : Int), (k : Int))) := by
        unfold rnum
        rw [hlen, HDP.out, HV.out]
      have HRN := Lib.hid hrn
      clear hlen hrn
      by_cases h1 : 1 < k
      · have hp : 0 < s.size := by omega
        have hz : s[0] = s.data.toList.headD 0 := by
          rw [get_getD s 0 hp]
          cases s.data.toList <;> rfl
        by_cases h2 : (s.data.toList.headD 0).toNat = 48
        · have e4 : ((s[0].toNat : Int) == 48) = true := by rw [hz, h2]; rfl
          have H2 := Lib.hid h2
          clear hz h2
          go_wp2
          go_ret2
          exact ⟨ret_two (by rw [HRN.out, if_pos ⟨h1, H2.out⟩]) (by rw [HRN.out, if_pos ⟨h1, H2.out⟩]), rfl⟩
        · have e4 : ((s[0].toNat : Int) == 48) = false := by rw [hz, beq_eq_false_iff_ne]; omega
          have H2 := Lib.hid h2
          clear hz h2
          go_wp2
          go_ret2
          exact ⟨ret_two (by rw [HRN.out, if_neg (fun h => H2.out h.2)]) (by rw [HRN.out, if_neg (fun h => H2.out h.2)]), rfl⟩
      · go_wp2
        go_ret2
        exact ⟨ret_two (by rw [HRN.out, if_neg (fun h => h1 h.1)]) (by rw [HRN.out, if_neg (fun h => h1 h.1)]), rfl⟩
end Go.Proofs.YtlhkkniebaganaaDoor
