/-
  The reference lexer's number, walked, on digits.
-/
import Derived.Test.YthbipapihdppmaaDoorLexRefB
namespace Go.Proofs.YthbipapihdppmaaDoor
open Go.RowKit

def numR (l : List UInt8) : Int × Int :=
  if 1 < l.length ∧ l.headD 0 = 48 then (0, 3) else if 2305843009213693951 < Lex.value l then (0, 2) else ((Lex.value l : Int), 0)

theorem numR_zero {l : List UInt8} (h : 1 < l.length ∧ l.headD 0 = 48) : numR l = (0, 3) := by unfold numR; rw [if_pos h]
theorem numR_big {l : List UInt8} (h : ¬ (1 < l.length ∧ l.headD 0 = 48)) (h2 : 2305843009213693951 < Lex.value l) : numR l = (0, 2) := by unfold numR; rw [if_neg h, if_pos h2]
theorem numR_ok {l : List UInt8} (h : ¬ (1 < l.length ∧ l.headD 0 = 48)) (h2 : Lex.value l ≤ 2305843009213693951) : numR l = ((Lex.value l : Int), 0) := by unfold numR; rw [if_neg h, if_neg (by omega)]

theorem ret_num {a b : Int × Int} (h : a = b) : Ending.returned (.tuple #[.int .i64 a.1, .int .i64 a.2]) = .returned (.tuple #[.int .i64 b.1, .int .i64 b.2]) := by rw [h]

theorem take_snoc (s : ByteArray) (k : Nat) (h : k < s.size) : s.data.toList.take (k + 1) = s.data.toList.take k ++ [s[k]] := by
  rw [List.take_succ_eq_append_getElem (by simpa using h)]; rfl
theorem head_get (s : ByteArray) (h : 0 < s.size) : s.data.toList.headD 0 = s[0] := by
  have := rest_cons s 0 h
  unfold rest at this
  rw [List.drop_zero] at this
  rw [this]; rfl

set_option maxHeartbeats 1000000 in
theorem number_ref (s : ByteArray) (w : World) (hs : s.size ≤ 9223372036854775806) (hd : ∀ (j : Nat) (h : j < s.size), 48 ≤ s[j].toNat ∧ s[j].toNat ≤ 57) :
    Calls Tryd.prog 38 #[.string s] w fun e w' => e = .returned (.tuple #[.int .i64 (numR s.data.toList).1, .int .i64 (numR s.data.toList).2]) ∧ w = w' := by
  have HD := Lib.hid hd
  clear hd
  have hlen := Lib.size_eq s
  have HL := Lib.hid hlen
  clear hlen
  by_cases z : 1 < s.size ∧ s.data.toList.headD 0 = 48
  · have HZ := Lib.hid z
    obtain ⟨z1, z2⟩ := z
    have z3 : ((s[0].toNat : Int) == 48) = true := by rw [head_get s (by omega)] at z2; rw [z2]; rfl
    clear z2
    go_enter Tryd.func38, Tryd.ntmps38
    go_wp2
    go_ret2
    exact ⟨ret_num (a := (0, 3)) (by rw [numR_zero (by rw [← HL.out]; exact HZ.out)]), rfl⟩
  · have HZ := Lib.hid z
    have z5 : (∃ h : 0 < s.size, 1 < s.size ∧ ((s[0].toNat : Int) == 48) = false) ∨ ¬ 1 < s.size := by
      by_cases h : 1 < s.size
      · refine .inl ⟨by omega, h, ?_⟩
        refine beq_no _ _ fun e => z ⟨h, ?_⟩
        rw [head_get s (by omega)]
        exact UInt8.toNat_inj.1 (by show _ = 48; omega)
      · exact .inr h
    clear z
    rcases z5 with ⟨h0, h1, h2⟩ | h1
    all_goals
      go_enter Tryd.func38, Tryd.ntmps38
      go_wp2
      go_loop [4, 5] (fun n i => ∃ (k V : Nat), k ≤ s.size ∧ i = .int .i64 k ∧ n = .int .i64 V ∧ V = Lex.value (s.data.toList.take k) ∧ V ≤ 2305843009213693951) (fun _ i => s.size - (intOf i).toNat)
      case atStart => exact ⟨0, 0, Nat.zero_le _, rfl, rfl, rfl, by omega⟩
      case round =>
        obtain ⟨k, V, hk, rfl, rfl, hV, hb⟩ := hrel
        have HV := Lib.hid hV
        clear hV
        by_cases hlt : k < s.size
        · have hdk := HD.out k hlt
          have hsn : Lex.value (s.data.toList.take (k + 1)) = 10 * V + (s[k].toNat - 48) := by rw [take_snoc s k hlt, Lex.value_snoc, HV.out]
          have HS := Lib.hid hsn
          clear hsn
          by_cases hq : V > (2305843009213693951 - (s[k].toNat - 48)) / 10
          · go_wp2
            go_ret2
            have h3 := Lex.value_take s.data.toList (k + 1)
            rw [HS.out] at h3
            exact ⟨ret_num (a := (0, 2)) (by rw [numR_big (by rw [← HL.out]; exact HZ.out) (by omega)]), rfl⟩
          · go_wp2
            go_round
            case rel => exact ⟨k + 1, 10 * V + (s[k].toNat - 48), by omega, by go_num, by go_num, HS.out.symm, by omega⟩
            case measure => simp [intOf]; omega
        · go_wp2
          go_ret2
          have hk2 : V = Lex.value s.data.toList := by rw [HV.out, List.take_of_length_le (by rw [← HL.out]; omega)]
          exact ⟨ret_num (a := (V, 0)) (by rw [numR_ok (by rw [← HL.out]; exact HZ.out) (by omega), hk2]), rfl⟩
end Go.Proofs.YthbipapihdppmaaDoor
