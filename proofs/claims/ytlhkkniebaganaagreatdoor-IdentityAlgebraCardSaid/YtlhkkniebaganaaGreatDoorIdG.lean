/-
  Identities: the program's number, walked.
-/
import Derived.Test.YtlhkkniebaganaaGreatDoorIdF
import Derived.Test.YtlhkkniebaganaaGreatDoorShelfI
import Derived.Lib.AtoiAll
import Derived.Lib.ItoaNum
namespace Go.Proofs.YtlhkkniebaganaaGreatDoor
open Go.RowKit

/-- The package-level variables that identities read. -/
structure IdEnv (w : World) : Prop where
  er : ∃ te pe, w.cell? ⟨2, 0, none⟩ = some (.iface te pe)
  tab : Lib.TabIs Tryz.prog w "internal/strconv.uint64pow10" .u64 Lib.pow10Tab

theorem parseUint_digits : ∀ (l : List UInt8) (acc : Nat), (∀ c ∈ l, Id.digit c = true) → acc ≤ 18446744073709551615 →
    Lib.parseUint10 acc l = if l.foldl (fun n c => 10 * n + (c.toNat - 48)) acc ≤ 18446744073709551615 then .ok (l.foldl (fun n c => 10 * n + (c.toNat - 48)) acc) else .range
  | [], acc, _, h => by rw [Lib.parseUint10, List.foldl_nil, if_pos h]
  | c :: r, acc, hd, h => by
    have hc : 48 ≤ c.toNat ∧ c.toNat ≤ 57 := of_decide_eq_true (hd c (by simp))
    have hge : ∀ (l : List UInt8) (a : Nat), a ≤ l.foldl (fun n c => 10 * n + (c.toNat - 48)) a := by
      intro l
      induction l with
      | nil => intro a; exact Nat.le_refl _
      | cons x l ih => intro a; have := ih (10 * a + (x.toNat - 48)); rw [List.foldl_cons]; omega
    have hge := hge r (10 * acc + (c.toNat - 48))
    rw [Lib.parseUint10, if_pos hc, List.foldl_cons]
    by_cases h1 : 1844674407370955162 ≤ acc
    · rw [if_pos h1, if_neg (by omega)]
    · rw [if_neg h1]
      by_cases h2 : 18446744073709551616 ≤ acc * 10 + (c.toNat - 48)
      · rw [if_pos h2, if_neg (by omega)]
      · rw [if_neg h2, show acc * 10 + (c.toNat - 48) = 10 * acc + (c.toNat - 48) by omega]
        exact parseUint_digits r _ (fun x hx => hd x (by simp [hx])) (by omega)
theorem atoi_digits (l : List UInt8) (hne : l ≠ []) (hd : ∀ c ∈ l, Id.digit c = true) : Lib.atoiAll l = if Id.value l < 9223372036854775808 then .ok (Id.value l : Int) else .range := by
  cases l with
  | nil => exact absurd rfl hne
  | cons c r =>
    have hc : 48 ≤ c.toNat ∧ c.toNat ≤ 57 := of_decide_eq_true (hd c (by simp))
    have hsign : ¬ (c.toNat = 43 ∨ c.toNat = 45) := by omega
    unfold Lib.atoiAll
    simp only [if_neg hsign]
    have hU : Lib.parseMag (c :: r) = if Id.value (c :: r) ≤ 18446744073709551615 then .ok (Id.value (c :: r)) else .range := by
      unfold Lib.parseMag
      rw [if_neg (by simp)]
      exact parseUint_digits (c :: r) 0 hd (by omega)
    rw [hU]
    have h45 : ¬ c.toNat = 45 := by omega
    by_cases h1 : Id.value (c :: r) ≤ 18446744073709551615
    · rw [if_pos h1]
      simp only [h45, not_false_eq_true, true_and, false_and, if_false]
      by_cases h2 : Id.value (c :: r) < 9223372036854775808
      · rw [if_pos h2, if_neg (by omega)]
      · rw [if_neg h2, if_pos (by omega)]
    · rw [if_neg h1, if_neg (by omega)]

def digs : List UInt8 := [48, 49, 50, 51, 52, 53, 54, 55, 56, 57]
theorem all_bytes' {P : UInt8 → Prop} (h : ∀ n : Fin 256, P (UInt8.ofNat n)) (c : UInt8) : P c := by
  have := h ⟨c.toNat, c.toNat_lt⟩
  simpa using this
theorem digs_contains (c : UInt8) : digs.contains c = Id.digit c := by
  revert c
  apply all_bytes'
  decide +kernel
theorem dropWhile_nil {α : Type} (p : α → Bool) : ∀ l : List α, l.dropWhile p = [] ↔ l.all p = true
  | [] => by simp
  | a :: l => by
    rw [List.dropWhile_cons]
    by_cases h : p a = true
    · rw [if_pos h, dropWhile_nil p l]; simp [h]
    · rw [if_neg h]; simp [h]
theorem trim_nil (l : List UInt8) : Lib.trimS l digs = [] ↔ l.all Id.digit = true := by
  have hp : (fun x => digs.contains x) = Id.digit := funext digs_contains
  unfold Lib.trimS Lib.trimLeftS Lib.trimRightS
  rw [show (digs.contains ·) = Id.digit from hp, dropWhile_nil]
  rw [List.all_reverse]
  constructor
  · intro h
    by_cases h2 : l.all Id.digit = true
    · exact h2
    · exfalso
      -- the last byte that is no digit stays
      have h3 : l.reverse.dropWhile Id.digit ≠ [] := by
        intro e
        rw [dropWhile_nil, List.all_reverse] at e
        exact h2 e
      cases hd : l.reverse.dropWhile Id.digit with
      | nil => exact h3 hd
      | cons a r =>
        have ha : Id.digit a = false := by
          have := List.head_dropWhile_not (p := Id.digit) (l := l.reverse) h3
          simp only [hd, List.head_cons] at this
          simpa using this
        rw [hd] at h
        simp [ha] at h
  · intro h
    rw [← List.all_reverse] at h
    rw [(dropWhile_nil _ _).2 h]
    rfl

def numV (l : List UInt8) : Int := if Id.numOk l then (if Id.value l < 9223372036854775808 then (Id.value l : Int) else -1) else 0

theorem trim_any (s : ByteArray) (w : World) (hs : s.size ≤ 1000000) :
    Calls Tryz.prog 44 #[.string s, .string ⟨#[48, 49, 50, 51, 52, 53, 54, 55, 56, 57]⟩] w fun e w' => e = .returned (.string ⟨(Lib.trimS s.data.toList digs).toArray⟩) ∧ Below w.heap.size w w' :=
  Any.strings_Trim_laid Tryz.lays160 (by kernel_rfl) s ⟨#[48, 49, 50, 51, 52, 53, 54, 55, 56, 57]⟩ w (by omega) (by decide) (ascii_of_all (by decide))

theorem atoi_small (s : ByteArray) (w : World) (hs : s.size ≤ 1000000) (hne : s.data.toList ≠ []) (hd : ∀ c ∈ s.data.toList, Id.digit c = true) (hv : Id.value s.data.toList < 9223372036854775808) :
    Calls Tryz.prog 45 #[.string s] w fun e w' => e = .returned (.tuple #[.int .i64 (Id.value s.data.toList : Nat), .nilIface]) ∧ Below w.heap.size w w' := by
  refine (Tryz.strconv_Atoi_ok s (by omega) (Id.value s.data.toList) (by rw [atoi_digits _ hne hd, if_pos hv]) w).mono ?_
  rintro e w' ⟨rfl, rfl | ⟨t, rfl⟩⟩
  · exact ⟨rfl, Below.refl _ _⟩
  · exact ⟨rfl, Lib.bytesWorld_below _ _ _⟩
theorem atoi_large (s : ByteArray) (w : World) (hE : IdEnv w) (hs : s.size ≤ 1000000) (hne : s.data.toList ≠ []) (hd : ∀ c ∈ s.data.toList, Id.digit c = true) (hv : ¬ Id.value s.data.toList < 9223372036854775808) :
    Calls Tryz.prog 45 #[.string s] w fun e w' => (∃ (x : Int) (u : TypeId) (p : Value), e = .returned (.tuple #[.int .i64 x, .iface u p])) ∧ Below w.heap.size w w' := by
  obtain ⟨te, pe, hc⟩ := hE.er
  refine (Tryz.strconv_Atoi_range s (by omega) (by rw [atoi_digits _ hne hd, if_neg hv]) _ w hc (.inr ⟨te, pe, rfl⟩)).mono ?_
  rintro e w' ⟨N, rfl, _, _, hb⟩
  exact ⟨⟨_, _, _, rfl⟩, hb⟩
theorem id_cell_keep {w w' : World} (hb : Below w.heap.size w w') {a : Addr} {v : Value} (h : w.cell? a = some v) : w'.cell? a = some v := by
  rw [hb.cell (World.block_lt_of_cell? w a h)]; exact h

theorem IdEnv.keep {w w' : World} (h : IdEnv w) (hb : Below w.heap.size w w') : IdEnv w' := by
  obtain ⟨⟨te, pe, hc⟩, ht⟩ := h
  refine ⟨⟨te, pe, id_cell_keep hb hc⟩, ?_⟩
  have hgn : Tryz.prog.globalNamed "internal/strconv.uint64pow10" = some 3 := by kernel_rfl
  unfold Lib.TabIs World.var? at ht ⊢
  rw [hgn] at ht ⊢
  simp only [Option.bind_some] at ht ⊢
  have hlt : 3 < w.heap.size := by
    rcases Nat.lt_or_ge 3 w.heap.size with h' | h'
    · exact h'
    · rw [Array.getElem?_eq_none h'] at ht; cases ht
  rw [hb.block _ hlt]
  exact ht
theorem numOk_parts (l : List UInt8) : (l = [] ∧ Id.numOk l = false) ∨ (l ≠ [] ∧ Lib.trimS l digs ≠ [] ∧ Id.numOk l = false) ∨ (l ≠ [] ∧ Lib.trimS l digs = [] ∧ (∀ c ∈ l, Id.digit c = true) ∧ 1 < l.length ∧ (l.headD 0).toNat = 48 ∧ Id.numOk l = false) ∨
    (l ≠ [] ∧ Lib.trimS l digs = [] ∧ (∀ c ∈ l, Id.digit c = true) ∧ ¬ (1 < l.length ∧ (l.headD 0).toNat = 48) ∧ Id.numOk l = true) := by
  by_cases h1 : l = []
  · exact .inl ⟨h1, by rw [h1]; rfl⟩
  · by_cases h2 : l.all Id.digit = true
    · have ht := (trim_nil l).2 h2
      have hd := List.all_eq_true.1 h2
      by_cases h3 : 1 < l.length ∧ (l.headD 0).toNat = 48
      · exact .inr (.inr (.inl ⟨h1, ht, hd, h3.1, h3.2, by simp only [Id.numOk, h3.1, h3.2]; simp⟩))
      · refine .inr (.inr (.inr ⟨h1, ht, hd, h3, ?_⟩))
        unfold Id.numOk
        rw [h2]
        simp only [Bool.and_eq_true, Bool.not_eq_true', decide_eq_true_eq, Bool.and_eq_false_iff, decide_eq_false_iff_not]
        refine ⟨⟨h1, trivial⟩, ?_⟩
        by_cases h4 : 1 < l.length
        · exact .inr fun h5 => h3 ⟨h4, h5⟩
        · exact .inl h4
    · refine .inr (.inl ⟨h1, fun e => h2 ((trim_nil l).1 e), ?_⟩)
      unfold Id.numOk
      rw [Bool.eq_false_iff.2 h2]
      simp

theorem ret_num {a b : Int} {c d : Bool} (h1 : a = b) (h2 : c = d) : Ending.returned (.tuple #[.int .i64 a, .bool c]) = .returned (.tuple #[.int .i64 b, .bool d]) := by rw [h1, h2]

set_option maxRecDepth 100000 in
set_option maxHeartbeats 1000000 in
theorem number_any (s : ByteArray) (w : World) (hE : IdEnv w) (hs : s.size ≤ 1000000) :
    Calls Tryz.prog 32 #[.string s] w fun e w' => e = .returned (.tuple #[.int .i64 (numV s.data.toList), .bool (Id.numOk s.data.toList)]) ∧ Below w.heap.size w w' := by
  have hT := trim_any s w hs
  have hemp : ∀ x : ByteArray, x.data.toList = [] → x.toList.isEmpty = true ∧ x.toList = [] := fun x h => by rw [Lib.toList_data, h]; exact ⟨rfl, rfl⟩
  have hnemp : ∀ x : ByteArray, x.data.toList ≠ [] → x.toList.isEmpty = false := fun x h => by
    rw [Lib.toList_data]
    cases hx : x.data.toList with
    | nil => exact absurd hx h
    | cons a l => rfl
  have HEMP := Lib.hid hemp
  have HNEMP := Lib.hid hnemp
  have HT := Lib.hid hT
  have HE := Lib.hid hE
  clear hT hE hemp hnemp
  rcases numOk_parts s.data.toList with ⟨h0, hn⟩ | ⟨h0, ht, hn⟩ | ⟨h0, ht, hd, hl, hz, hn⟩ | ⟨h0, ht, hd, hl, hn⟩
  · have e1 := (HEMP.out s h0).1
    have e2 := (HEMP.out s h0).2
    have HN := Lib.hid hn
    clear h0 hn
    go_enter Tryz.func32, Tryz.ntmps32
    go_wp2_with fail
    go_ret2
    exact ⟨ret_num (by unfold numV; rw [HN.out]; rfl) HN.out.symm, Below.refl _ _⟩
  · have e1 := HNEMP.out s h0
    obtain ⟨Y, hY⟩ : ∃ Y : ByteArray, (⟨(Lib.trimS s.data.toList digs).toArray⟩ : ByteArray) = Y := ⟨_, rfl⟩
    have e2 := HNEMP.out Y (by rw [← hY]; simpa using ht)
    rw [hY] at HT
    have HN := Lib.hid hn
    clear h0 hn ht hY
    go_enter Tryz.func32, Tryz.ntmps32
    go_wp2_with fail
    refine HT.out.mono ?_
    rintro e w1 ⟨rfl, hb⟩
    go_wp2_with fail
    go_ret2
    exact ⟨ret_num (by unfold numV; rw [HN.out]; rfl) HN.out.symm, hb⟩
  · have e1 := HNEMP.out s h0
    rw [ht] at HT
    have e3 : 1 < s.size := by rw [Lib.size_eq]; exact hl
    have e4 : ((s[0].toNat : Int) == 48) = true := by
      have hp : 0 < s.data.size := by show 0 < s.size; omega
      have key : s.data[0] = s.data.toList.headD 0 := ?_
      · rw [beq_iff_eq]
        show ((s.data[0].toNat : Nat) : Int) = ((48 : Nat) : Int)
        rw [key, hz]
      cases hx : s.data.toList with
      | nil => exact absurd hx h0
      | cons a l =>
        have : s.data[0]? = some a := by rw [← Array.getElem?_toList, hx]; rfl
        rw [List.headD_cons]
        exact Option.some.inj ((Array.getElem?_eq_getElem _).symm.trans this)
    have HN := Lib.hid hn
    clear h0 hn ht hd hl hz
    go_enter Tryz.func32, Tryz.ntmps32
    go_wp2_with fail
    refine HT.out.mono ?_
    rintro e w1 ⟨rfl, hb⟩
    go_wp2_with fail
    go_ret2
    exact ⟨ret_num (by unfold numV; rw [HN.out]; rfl) HN.out.symm, hb⟩
  · have e1 := HNEMP.out s h0
    rw [ht] at HT
    have HN := Lib.hid hn
    have HS := Lib.hid (fun w => atoi_small s w hs h0 hd)
    have HL := Lib.hid (fun w hE => atoi_large s w hE hs h0 hd)
    have hpos : 0 < s.size := by rw [Lib.size_eq]; exact List.length_pos_iff.2 h0
    have e4 : 1 < s.size → ((s[0].toNat : Int) == 48) = false := by
      intro h1
      rw [beq_eq_false_iff_ne]
      intro h2
      refine hl ⟨by rw [← Lib.size_eq]; exact h1, ?_⟩
      cases hx : s.data.toList with
      | nil => exact absurd hx h0
      | cons a l =>
        have : s.data[0]? = some a := by rw [← Array.getElem?_toList, hx]; rfl
        rw [List.headD_cons, ← Option.some.inj ((Array.getElem?_eq_getElem hpos).symm.trans this)]
        have h3 : ((s[0]'hpos).toNat : Int) = 48 := h2
        exact Int.ofNat_inj.1 h3
    clear h0 hn ht hd hl
    have key : ∀ w1, Below w.heap.size w w1 → ∃ v : Int, numV s.data.toList = v ∧ Calls Tryz.prog 45 #[.string s] w1 fun e w' => (∃ x ev, e = .returned (.tuple #[.int .i64 x, ev]) ∧ ((v = x ∧ ev = .nilIface) ∨ (v = -1 ∧ ∃ u p, ev = .iface u p))) ∧ Below w1.heap.size w1 w' := by
      intro w1 hb
      by_cases hv : Id.value s.data.toList < 9223372036854775808
      · refine ⟨(Id.value s.data.toList : Nat), by unfold numV; rw [HN.out, if_pos rfl, if_pos hv], (HS.out w1 hv).mono fun e w' ⟨h1, h2⟩ => ⟨⟨_, _, h1, .inl ⟨rfl, rfl⟩⟩, h2⟩⟩
      · refine ⟨-1, by unfold numV; rw [HN.out, if_pos rfl, if_neg hv], (HL.out w1 (HE.out.keep hb) hv).mono fun e w' ⟨⟨x, u, p, h1⟩, h2⟩ => ⟨⟨_, _, h1, .inr ⟨rfl, u, p, rfl⟩⟩, h2⟩⟩
    have KEY := Lib.hid key
    clear key
    by_cases h1 : 1 < s.size
    all_goals
      first | (have e5 := e4 h1; clear e4) | clear e4
      go_enter Tryz.func32, Tryz.ntmps32
      go_wp2_with fail
      refine HT.out.mono ?_
      rintro e w1 ⟨rfl, hb⟩
      obtain ⟨v, hv, hcall⟩ := KEY.out w1 hb
      have HV := Lib.hid hv
      have HC := Lib.hid hcall
      clear hv hcall
      go_wp2_with fail
      refine HC.out.mono ?_
      rintro e w2 ⟨⟨x, ev, rfl, ⟨rfl, rfl⟩ | ⟨rfl, u, p, rfl⟩⟩, hb2⟩
      all_goals
        go_wp2_with fail
        go_ret2
        exact ⟨ret_num HV.out.symm HN.out.symm, hb.trans (hb2.mono hb.size)⟩
end Go.Proofs.YtlhkkniebaganaaGreatDoor
