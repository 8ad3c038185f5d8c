/-
  The law LexerNumbers, walked.
-/
import Derived.Test.YthbipapihdppmaaDoorLexDec
import Derived.Test.YthbipapihdppmaaDoorLexLawTokens
import Derived.Laws.BytesArg
namespace Go.Proofs.YthbipapihdppmaaDoor
open Go.RowKit

/-- the loop's state: m is left, the digits S are written -/
def NumInv (n m : Nat) (S : List UInt8) : Prop := (S = [] ∧ m = n) ∨ (S ≠ [] ∧ ((m = 0 ∧ S = dec n) ∨ (0 < m ∧ dec m ++ S = dec n)))

theorem numInv_step {n m : Nat} {S : List UInt8} (h : NumInv n m S) (hc : S = [] ∨ 0 < m) : NumInv n (m / 10) (dig m :: S) := by
  have key : ∀ R, dec m ++ R = dec n → R = S → NumInv n (m / 10) (dig m :: S) := by
    intro R hR e
    subst e
    refine .inr ⟨by simp, ?_⟩
    by_cases hm : m < 10
    · left
      rw [dec_small hm] at hR
      exact ⟨by omega, by rw [← hR]; rfl⟩
    · right
      rw [dec_big hm] at hR
      exact ⟨by omega, by rw [← hR]; simp⟩
  rcases h with ⟨rfl, rfl⟩ | ⟨hS, ⟨rfl, h⟩ | ⟨_, h⟩⟩
  · exact key [] (by simp) rfl
  · rcases hc with h1 | h1
    · exact absurd h1 hS
    · omega
  · exact key S h rfl
theorem numInv_len {n m : Nat} {S : List UInt8} (h : NumInv n m S) : S.length ≤ (dec n).length := by
  rcases h with ⟨rfl, _⟩ | ⟨_, ⟨_, rfl⟩ | ⟨_, h⟩⟩
  · simp
  · exact Nat.le_refl _
  · rw [← h]; simp
theorem numInv_end {n m : Nat} {S : List UInt8} (h : NumInv n m S) (h1 : S ≠ []) (h2 : m = 0) : S = dec n := by
  rcases h with ⟨h, _⟩ | ⟨_, ⟨_, h⟩ | ⟨h, _⟩⟩
  · exact absurd h h1
  · exact h
  · omega

theorem new_cell1 {W : World} {h0 : Array Obj} {cs : Array Value} {t : TypeId} {b : Nat} (hW : W.heap = h0.push (.cells cs t)) (hb : b = h0.size) (j : Nat) (u : Value) (h : cs[j]? = some u) : W.cell? ⟨b, j, none⟩ = some u := by
  unfold World.cell?
  simp [hW, hb]
  simpa using h
theorem conv1 (w : World) (m : Nat) : (convert 34 9 (.slice (some ⟨w.heap.size, 0, none⟩) 1 1)).run Tryd.prog (w.alloc (.cells #[.int .u8 (48 + (m : Int) % 10)] 5)) = .ok (.string ⟨#[dig m]⟩) (w.alloc (.cells #[.int .u8 (48 + (m : Int) % 10)] 5)) := by
  have hc : ∀ i, i < 1 → (w.alloc (.cells #[.int .u8 (48 + (m : Int) % 10)] 5)).cell? ⟨w.heap.size, 0 + i, none⟩ = some (.int .u8 ([48 + (m : Int) % 10].getD i 0)) := by
    intro i hi
    have h0 : i = 0 := by omega
    subst h0
    exact new_cell1 rfl rfl _ _ rfl
  rw [run_convert_bytes_arg _ 34 5 Tryd.underlying34 Tryd.underlying5 w.heap.size 0 1 1 [48 + (m : Int) % 10] rfl hc _ Tryd.underlying9]
  congr 2

theorem conv0 (w : World) : (convert 34 9 (.slice (some ⟨w.heap.size, 0, none⟩) 1 1)).run Tryd.prog (w.alloc (.cells #[.int .u8 48] 5)) = .ok (.string ⟨#[48]⟩) (w.alloc (.cells #[.int .u8 48] 5)) := conv1 w 0
theorem conv1_str (m : Nat) (S : List UInt8) : (⟨#[dig m]⟩ : ByteArray) ++ ⟨S.toArray⟩ = ⟨(dig m :: S).toArray⟩ := by
  apply bytes_eq
  rw [ByteArray.data_append, Array.toList_append]; rfl

def emptyOf : Value → Nat
  | .string b => if b.data.toList = [] then 1 else 0
  | _ => 0

set_option maxRecDepth 100000 in
set_option maxHeartbeats 1000000 in
theorem law_numbers (n : Nat) (hn : n < 18446744073709551616) (w : World) (hE : LexEnv w) :
    Calls Tryd.prog 7 #[.int .u64 n] w fun e w' => e = .returned (.bool true) ∧ Below w.heap.size w w' := by
  have HE := Lib.hid hE
  clear hE
  have ha : ∀ w0, LexEnv w0 → Calls Tryd.prog 9 #[] w0 fun e w' => e = .returned (.bool true) ∧ Below w0.heap.size w0 w' := fun w0 h => awake_any w0 h
  have HA := Lib.hid ha
  clear ha
  go_enter Tryd.func7, Tryd.ntmps7
  go_wp2_with fail
  refine (HA.out _ HE.out).mono ?_
  rintro e w1 ⟨rfl, hb1⟩
  have s1 := hb1.size
  go_wp2_with fail
  go_loopw [3, 4] (fun s x wr => ∃ (m : Nat) (S : List UInt8), m ≤ n ∧ s = .string ⟨S.toArray⟩ ∧ x = .int .u64 m ∧ NumInv n m S ∧ Below w1.heap.size w1 wr) (fun s x _ => (intOf x).toNat + emptyOf s)
  case atStart => exact ⟨n, [], Nat.le_refl _, rfl, rfl, .inl ⟨rfl, rfl⟩, Below.refl _ _⟩
  case round =>
    obtain ⟨m, S, hm, rfl, rfl, hinv, hbel⟩ := hrel
    have hsz := hbel.size
    have hSl := numInv_len hinv
    have hdl := dec_len 19 n (by omega)
    have hS20 : S.length ≤ 20 := by omega
    have HI := Lib.hid hinv
    clear hSl hdl
    clear hinv
    have hcv := conv1 wr m
    cases S with
    | nil =>
      by_cases h0 : 0 < m
      · go_wp2_with fail
        go_roundw
        case rel => exact ⟨m / 10, [dig m], by omega, rfl, by go_num, numInv_step HI.out (.inl rfl), hbel.alloc hsz _⟩
        case measure =>
          simp [intOf, emptyOf]; omega
      · obtain rfl : m = 0 := by omega
        have h1 : decide ((0 : Int) < (0 : Int)) = false := by decide
        have hcv0 := conv0 wr
        clear h0 hcv
        go_wp2_with fail
        go_roundw
        case rel => exact ⟨0, [dig 0], by omega, rfl, by go_num, numInv_step HI.out (.inl rfl), hbel.alloc hsz _⟩
        case measure => simp [intOf, emptyOf]
    | cons c S =>
      have hS19 : S.length ≤ 19 := by simpa using hS20
      clear hS20
      by_cases h0 : 0 < m
      · go_wp2_with fail
        go_roundw
        case rel => exact ⟨m / 10, dig m :: c :: S, by omega, by rw [conv1_str], by go_num, numInv_step HI.out (.inr h0), hbel.alloc hsz _⟩
        case measure =>
          rw [conv1_str]
          simp [intOf, emptyOf]; omega
      · obtain rfl : m = 0 := by omega
        have h1 : decide ((0 : Int) < (0 : Int)) = false := by decide
        have hdec : c :: S = dec n := numInv_end HI.out (by simp) rfl
        have hl := dec_len 19 n (by omega)
        have hsc := scan_dec n (by omega)
        rw [← hdec] at hsc hl
        have hbytes : ((⟨#[32]⟩ : ByteArray) ++ ⟨(c :: S).toArray⟩ ++ ⟨#[59]⟩).data.toList = 32 :: ((c :: S) ++ [59]) := by
          rw [ByteArray.data_append, Array.toList_append, ByteArray.data_append, Array.toList_append]; rfl
        have hsize : ((⟨#[32]⟩ : ByteArray) ++ ⟨(c :: S).toArray⟩ ++ ⟨#[59]⟩).size ≤ 9223372036854775800 := by
          rw [Lib.size_eq, hbytes]; simp at hl ⊢; omega
        have HB := Lib.hid hbytes
        have HZ := Lib.hid hsize
        have HSC := Lib.hid hsc
        clear hbytes hsize hsc hdec h0 hcv
        by_cases hbig : 2305843009213693951 < n
        · have hb1n : decide ((2305843009213693951 : Int) < (n : Int)) = true := by simp; omega
          go_wp2_with fail
          refine (scan_any _ _ (HE.out.keep (hb1.trans (hbel.mono s1))) HZ.out).mono ?_
          rintro e w2 hp2
          obtain ⟨rfl, hb2⟩ := post_bad hp2 (by rw [HB.out, HSC.out, if_pos hbig])
          clear hp2
          go_wp2_with fail
          go_ret
          exact ⟨rfl, (hb1.trans (hbel.mono s1)).trans (hb2.mono (by omega))⟩
        · have hb1n : decide ((2305843009213693951 : Int) < (n : Int)) = false := by simp; omega
          go_wp2_with fail
          refine (scan_any _ _ (HE.out.keep (hb1.trans (hbel.mono s1))) HZ.out).mono ?_
          rintro e w2 hp2
          obtain ⟨g1, cap1, rfl, ht1, hg1, hg2, hb2⟩ := post_toks hp2 (by rw [HB.out, HSC.out, if_neg hbig])
          clear hp2
          obtain ⟨x0, x1, x2, x3⟩ := ht1 0 _ rfl
          obtain ⟨y0, y1, y2, y3⟩ := ht1 1 _ rfl
          simp only [] at x0 x1 x2 x3 y0 y1 y2 y3
          clear ht1
          go_wp2_with fail
          go_ret
          exact ⟨by first | rfl | simp, (hb1.trans (hbel.mono s1)).trans (hb2.mono (by omega))⟩

theorem law_numbers_wf (x : Int) (hx : (Lit.int .u64 x).wf = true) (w : World) (hE : LexEnv w) :
    Calls Tryd.prog 7 #[.int .u64 x] w fun e w' => e = .returned (.bool true) ∧ Below w.heap.size w w' := by
  have h1 : IntKind.min .u64 = 0 := by decide
  have h2 : IntKind.max .u64 = 18446744073709551615 := by decide
  simp only [Lit.wf, h1, h2, Bool.and_eq_true, decide_eq_true_eq] at hx
  obtain ⟨n, rfl⟩ : ∃ n : Nat, x = n := ⟨x.toNat, by omega⟩
  exact law_numbers n (by omega) w hE
end Go.Proofs.YthbipapihdppmaaDoor
