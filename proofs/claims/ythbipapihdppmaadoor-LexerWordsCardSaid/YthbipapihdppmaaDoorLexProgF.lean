/-
  The program's lexer: the table of functions by first bytes, walked.
-/
import Derived.Test.YthbipapihdppmaaDoorLexProgE
import Derived.Maps.Own
import Derived.Maps.Views
import Derived.StillTailTactics
namespace Go.Proofs.YthbipapihdppmaaDoor
open Go.RowKit Go.Maps

/-- a function value without captured variables, told by its number -/
def fnV (n : Nat) : Value := .func (.func n) #[] #[]
def fnTag (v : Value) : Option (DataW Unit × List MemPlace) :=
  match v with
  | .func (.func n) a b => if a.size = 0 ∧ b.size = 0 ∧ n ≠ 0 then some (.lit (.int .i64 n), []) else none
  | .nilFunc => some (.lit (.int .i64 0), [])
  | _ => none
theorem fnTag_fnV (n : Nat) (h : n ≠ 0) : fnTag (fnV n) = some (.lit (.int .i64 n), []) := by simp [fnTag, fnV, h]
theorem fnTag_inv {v : Value} {n : Nat} {ps : List MemPlace} (h : fnTag v = some (.lit (.int .i64 n), ps)) : v = if n = 0 then .nilFunc else fnV n := by
  unfold fnTag at h
  split at h
  · rename_i m a b
    split at h
    · rename_i hc
      simp only [Option.some.injEq, Prod.mk.injEq, DataW.lit.injEq, Lit.int.injEq, true_and] at h
      obtain ⟨ha, hb, hm⟩ := hc
      have hmn : m = n := Int.ofNat_inj.1 h.1
      subst hmn
      rw [if_neg hm]
      unfold fnV
      rw [Array.eq_empty_of_size_eq_zero ha, Array.eq_empty_of_size_eq_zero hb]
    · cases h
  · simp only [Option.some.injEq, Prod.mk.injEq, DataW.lit.injEq, Lit.int.injEq, true_and] at h
    have h0 : n = 0 := (Int.ofNat_inj.1 h.1).symm
    rw [if_pos h0]
  · cases h

theorem keyU8 : Keyed Tryd.prog 5 := int_keyed Tryd.underlying5
theorem wfU8 (c : UInt8) : (Lit.int .u8 c.toNat).wf = true := by
  have := c.toNat_lt
  have h1 : IntKind.min .u8 = 0 := by decide
  have h2 : IntKind.max .u8 = 255 := by decide
  simp only [Lit.wf, h1, h2, Bool.and_eq_true, decide_eq_true_eq]
  omega
theorem keyOfU8 (c : UInt8) : keyOf Tryd.prog 5 (.int .u8 c.toNat) = some (.int .u8 c.toNat) :=
  keyOf_int_mk Tryd.underlying5 (wfU8 c)

/-- block M is a map of at most n entries that holds at byte c the function number f c (0: none) -/
def TableAt (w : World) (M n : Nat) (f : UInt8 → Nat) : Prop :=
  ∃ D : DataW Unit, IsMap D ∧ w.ownsMap Tryd.prog 5 fnTag M n D ∧ ∀ c : UInt8, D.atKey (.int .u8 c.toNat) (.lit (.int .i64 0)) = .lit (.int .i64 (f c))

theorem key_ne {a b : UInt8} (h : a ≠ b) : (Lit.int .u8 a.toNat) ≠ (Lit.int .u8 b.toNat) := by
  intro e
  simp only [Lit.int.injEq, true_and] at e
  exact h (UInt8.toNat_inj.1 (by omega))

theorem grown_trans {a b c : World} {r : Option Nat} (h : a.grownBy b r) (k : b.grownBy c r) : a.grownBy c r :=
  ⟨k.os.trans h.os, k.tape.trans h.tape, k.output.trans h.output, Nat.le_trans h.size k.size, fun i hi hr => (k.block i (Nat.lt_of_lt_of_le hi h.size) hr).trans (h.block i hi hr)⟩
theorem grown_refl (w : World) (r : Option Nat) : w.grownBy w r := ⟨rfl, rfl, rfl, Nat.le_refl _, fun _ _ _ => rfl⟩
theorem grown_drew {a b : World} {r : Option Nat} (h : a.grownBy b r) : a.grownBy b.drew r := ⟨h.os, h.tape, h.output, h.size, h.block⟩

/-- what the table holds behind k bytes of s -/
def putF (s : ByteArray) (t k : Nat) (f : UInt8 → Nat) (c : UInt8) : Nat := if (s.data.toList.take k).contains c then t else f c
theorem putF_zero (s : ByteArray) (t : Nat) (f : UInt8 → Nat) : putF s t 0 f = f := by funext c; unfold putF; simp
theorem putF_succ (s : ByteArray) (t k : Nat) (f : UInt8 → Nat) (h : k < s.size) (c : UInt8) : putF s t (k + 1) f c = if c = s[k] then t else putF s t k f c := by
  unfold putF
  rw [take_snoc s k h]
  by_cases e : c = s[k]
  · rw [if_pos e, if_pos (by rw [e]; simp)]
  · rw [if_neg e]
    congr 1
    simp [List.mem_append, e]

theorem cell_not_map {w : World} {P : Program} {k : TypeId} {R : Value → Option (DataW Unit × List MemPlace)} {M n cb : Nat} {D : DataW Unit} {v : Value} (h : w.cell? ⟨cb, 0, none⟩ = some v) (hM : w.ownsMap P k R M n D) : cb ≠ M := by
  intro e
  subst e
  obtain ⟨es, clock, hb, _⟩ := hM
  unfold World.cell? at h
  simp only [hb] at h
  cases h

set_option maxRecDepth 100000 in
set_option maxHeartbeats 1000000 in
theorem set_any (s : ByteArray) (t cb M n : Nat) (f : UInt8 → Nat) (w : World) (ht : t ≠ 0) (hs : s.size ≤ 1000) (hn : n ≤ 1000) (hcb : w.cell? ⟨cb, 0, none⟩ = some (.map (some M))) (hM : TableAt w M n f) :
    Calls Tryd.prog 29 #[.string s, fnV t, .pointer (some ⟨cb, 0, none⟩)] w fun e w' => e = .returned (.tuple #[]) ∧ TableAt w' M (n + s.size) (putF s t s.size f) ∧ w.grownBy w' (some M) := by
  have hne0 : cb ≠ M := by obtain ⟨D, _, hown, _⟩ := hM; exact cell_not_map hcb hown
  go_enter Tryd.func29, Tryd.ntmps29
  go_wp2
  go_loopw [8] (fun i wr => ∃ k : Nat, k ≤ s.size ∧ i = .int .i64 k ∧ TableAt wr M (n + k) (putF s t k f) ∧ w.grownBy wr (some M)) (fun i _ => s.size - (intOf i).toNat)
  case atStart => exact ⟨0, Nat.zero_le _, rfl, by rw [putF_zero]; exact hM, grown_refl _ _⟩
  case round =>
    obtain ⟨k, hk, rfl, hT, hg⟩ := hrel
    by_cases hlt : k < s.size
    · have hT2 := Lib.hid hT
      have hG := Lib.hid hg
      clear hT hg
      obtain ⟨D, hD, hown, hat⟩ := hT2.out
      have hcell := hG.out.cell hcb (by simpa using hne0)
      have HAT := Lib.hid hat
      clear hat
      go_wp2
      go_still_tail 5, (by kernel_rfl)
      refine wpList_mapUpdate_own _ rfl _ _ _ 40 rfl 5 43 keyU8 Tryd.underlying40 fnTag M (n + k) D rfl hown.drew (by unfold maxLen; omega) (.int .u8 s[k].toNat) (fnV t) (.int .u8 s[k].toNat) rfl rfl (keyOfU8 _) (.lit (.int .i64 t)) [] (fnTag_fnV t ht) ?_
      intro w1 hown1 hgrow1
      go_wp2
      go_roundw
      case rel =>
        refine ⟨k + 1, by omega, by go_num, ⟨_, hD.put _ _, hown1, fun c => ?_⟩, grown_trans (grown_drew hG.out) hgrow1⟩
        rw [putF_succ s t k f hlt]
        by_cases e : c = s[k]
        · rw [if_pos e, e]; exact atKey_put_same hD ((keyU8).key (keyOfU8 _)) _ _
        · rw [if_neg e, atKey_put_other (key_ne e)]; exact HAT.out c
      case measure => simp [intOf]; omega
    · go_wp2
      go_end0
      exact ⟨rfl, by have e : k = s.size := by omega
                     subst e
                     exact hT, hg⟩
end Go.Proofs.YthbipapihdppmaaDoor
