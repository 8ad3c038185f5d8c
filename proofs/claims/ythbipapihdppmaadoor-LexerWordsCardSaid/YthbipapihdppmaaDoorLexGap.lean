/-
  The law's gap, walked; what is skipped is a gap; the tokens of a text as a chain.
-/
import Derived.Test.YthbipapihdppmaaDoorLexLawScans
namespace Go.Proofs.YthbipapihdppmaaDoor
open Go.RowKit

/-- only spaces and comments (true: inside a comment) -/
def gapB : Bool → List UInt8 → Bool
  | _, [] => true
  | true, x :: r => if x.toNat = 10 then gapB false r else gapB true r
  | false, x :: r => if x.toNat = 10 then gapB false r else if x.toNat = 35 then gapB true r else if x.toNat = 32 ∨ x.toNat = 9 ∨ x.toNat = 13 then gapB false r else false

theorem gapB_t (x : UInt8) (r : List UInt8) : gapB true (x :: r) = if x.toNat = 10 then gapB false r else gapB true r := rfl
theorem gapB_f (x : UInt8) (r : List UInt8) : gapB false (x :: r) = if x.toNat = 10 then gapB false r else if x.toNat = 35 then gapB true r else if x.toNat = 32 ∨ x.toNat = 9 ∨ x.toNat = 13 then gapB false r else false := rfl

theorem gap_skip : ∀ (l : List UInt8), (gapB false (l.take (l.length - (Lex.skip false l).length)) = true) ∧ (gapB true (l.take (l.length - (Lex.skip true l).length)) = true)
  | [] => by simp [Lex.skip, gapB]
  | c :: r => by
    obtain ⟨i1, i2⟩ := gap_skip r
    have l1 := Lex.skip_le false r
    have l2 := Lex.skip_le true r
    constructor
    · rw [skip_f]
      by_cases h : Lex.space c = true
      · rw [if_pos h, List.length_cons, show r.length + 1 - (Lex.skip false r).length = (r.length - (Lex.skip false r).length) + 1 by omega, List.take_succ_cons, gapB_f, i1]
        rw [space_iff] at h
        by_cases h10 : c.toNat = 10
        · rw [if_pos h10]
        · rw [if_neg h10, if_neg (by omega), if_pos (by omega)]
      · rw [if_neg h]
        by_cases h35 : c.toNat = 35
        · rw [if_pos h35, List.length_cons, show r.length + 1 - (Lex.skip true r).length = (r.length - (Lex.skip true r).length) + 1 by omega, List.take_succ_cons, gapB_f, i2, if_neg (by omega), if_pos h35]
        · rw [if_neg h35, Nat.sub_self]; rfl
    · rw [skip_t]
      by_cases h10 : c.toNat = 10
      · rw [if_pos h10, List.length_cons, show r.length + 1 - (Lex.skip false r).length = (r.length - (Lex.skip false r).length) + 1 by omega, List.take_succ_cons, gapB_t, i1, if_pos h10]
      · rw [if_neg h10, List.length_cons, show r.length + 1 - (Lex.skip true r).length = (r.length - (Lex.skip true r).length) + 1 by omega, List.take_succ_cons, gapB_t, i2, if_neg h10]

set_option maxHeartbeats 1000000 in
theorem gap_any (s : ByteArray) (w : World) (hs : s.size ≤ 9223372036854775806) :
    Calls Tryd.prog 13 #[.string s] w fun e w' => e = .returned (.bool (gapB false s.data.toList)) ∧ w = w' := by
  have hrest : s.data.toList = rest s 0 := by unfold rest; rw [List.drop_zero]
  rw [hrest]
  clear hrest
  go_enter Tryd.func13, Tryd.ntmps13
  go_wp2
  go_loop [3, 4] (fun c i => ∃ (k : Nat) (b : Bool), k ≤ s.size ∧ i = .int .i64 k ∧ c = .bool b ∧ gapB false (rest s 0) = gapB b (rest s k)) (fun _ i => s.size - (intOf i).toNat)
  case atStart => exact ⟨0, false, Nat.zero_le _, rfl, rfl, rfl⟩
  case round =>
    obtain ⟨k, b, hk, rfl, rfl, hr⟩ := hrel
    have HR := Lib.hid hr
    clear hr
    by_cases hlt : k < s.size
    · by_cases h10 : s[k].toNat = 10
      · have H10 := Lib.hid h10
        have a1 := beq_yes s[k] 10 (by omega)
        clear h10
        go_wp2
        go_round
        case rel => exact ⟨k + 1, false, by omega, by go_num, rfl, by rw [HR.out, rest_cons s k hlt]; cases b <;> (first | rw [gapB_t, if_pos H10.out] | rw [gapB_f, if_pos H10.out])⟩
        case measure => simp [intOf]; omega
      · have H10 := Lib.hid h10
        have a1 := beq_no s[k] 10 (by omega)
        clear h10
        cases b
        · by_cases h35 : s[k].toNat = 35
          · have H35 := Lib.hid h35
            have a2 := beq_yes s[k] 35 (by omega)
            clear h35
            go_wp2
            go_round
            case rel => exact ⟨k + 1, true, by omega, by go_num, rfl, by rw [HR.out, rest_cons s k hlt, gapB_f, if_neg H10.out, if_pos H35.out]⟩
            case measure => simp [intOf]; omega
          · have H35 := Lib.hid h35
            have a2 := beq_no s[k] 35 (by omega)
            clear h35
            by_cases hsp : s[k].toNat = 32 ∨ s[k].toNat = 9 ∨ s[k].toNat = 13
            · have HSP := Lib.hid hsp
              have hc : ((s[k].toNat : Int) != 32) = false ∨ (((s[k].toNat : Int) != 32) = true ∧ ((s[k].toNat : Int) != 9) = false) ∨ (((s[k].toNat : Int) != 32) = true ∧ ((s[k].toNat : Int) != 9) = true ∧ ((s[k].toNat : Int) != 13) = false) := by
                simp only [bne_iff_ne, bne_eq_false_iff_eq, ne_eq]; omega
              clear hsp
              rcases hc with c1 | ⟨c1, c2⟩ | ⟨c1, c2, c3⟩
              all_goals
                go_wp2
                go_round
                case rel => exact ⟨k + 1, false, by omega, by go_num, rfl, by rw [HR.out, rest_cons s k hlt, gapB_f, if_neg H10.out, if_neg H35.out, if_pos HSP.out]⟩
                case measure => simp [intOf]; omega
            · have HSP := Lib.hid hsp
              have c1 : ((s[k].toNat : Int) != 32) = true := by rw [bne_iff_ne]; omega
              have c2 : ((s[k].toNat : Int) != 9) = true := by rw [bne_iff_ne]; omega
              have c3 : ((s[k].toNat : Int) != 13) = true := by rw [bne_iff_ne]; omega
              clear hsp
              go_wp2
              go_ret
              exact ⟨ret_bool (by rw [HR.out, rest_cons s k hlt, gapB_f, if_neg H10.out, if_neg H35.out, if_neg HSP.out]), rfl⟩
        · go_wp2
          go_round
          case rel => exact ⟨k + 1, true, by omega, by go_num, rfl, by rw [HR.out, rest_cons s k hlt, gapB_t, if_neg H10.out]⟩
          case measure => simp [intOf]; omega
    · go_wp2
      go_ret
      exact ⟨ret_bool (by rw [HR.out, rest_nil s k (by omega)]; cases b <;> rfl), rfl⟩

/-- the tokens of l (of n bytes) from offset a on: in order, their texts where they say, gaps between them, the end last -/
def Chain (l : List UInt8) (n : Nat) : Nat → List Lex.Tok → Prop
  | _, [] => False
  | a, [t] => t = ⟨0, [], 0, n⟩ ∧ a ≤ n ∧ gapB false ((l.drop a).take (n - a)) = true
  | a, t :: ts => t.kind ≠ 0 ∧ t.text ≠ [] ∧ a ≤ t.pos ∧ t.pos + t.text.length ≤ n ∧ t.text = (l.drop t.pos).take t.text.length ∧ gapB false ((l.drop a).take (t.pos - a)) = true ∧ Chain l n (t.pos + t.text.length) ts
end Go.Proofs.YthbipapihdppmaaDoor
