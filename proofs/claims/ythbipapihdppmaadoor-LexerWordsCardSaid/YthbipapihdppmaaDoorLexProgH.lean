/-
  The program's Scan, walked.
-/
import Derived.Test.YthbipapihdppmaaDoorLexProgG
namespace Go.Proofs.YthbipapihdppmaaDoor
open Go.RowKit Go.Maps

theorem fnZero (w : World) : (zeroValue 43).run Tryd.prog w = .ok .nilFunc w := by kernel_rfl
theorem fnTag_nil : fnTag .nilFunc = some (.lit (.int .i64 0), []) := rfl

theorem fn_eq_nil (w : World) : (binOp .eql 43 .nilFunc .nilFunc).run Tryd.prog w = .ok (.bool true) w := by kernel_rfl
theorem fn_eq_fn (n : Nat) (w : World) : (binOp .eql 43 (.func (.func n) #[] #[]) .nilFunc).run Tryd.prog w = .ok (.bool false) w := by kernel_rfl
theorem table_look {w : World} {M n : Nat} {f : UInt8 → Nat} (h : TableAt w M n f) (c : UInt8) :
    (Instr.lookup 40 (.map (some M)) (.int .u8 c.toNat) false).run Tryd.prog w = .ok (if f c = 0 then .nilFunc else fnV (f c)) w := by
  obtain ⟨D, h1, h2, h3⟩ := h
  obtain ⟨v, ps, hrun, hv⟩ := h2.lookup keyU8 Tryd.underlying40 (fnZero w) fnTag_nil (keyOfU8 c)
  rw [h3 c] at hv
  rw [hrun, fnTag_inv hv]

theorem sym_head : ∀ x ∈ Lex.symbols, symStarts.contains (x.headD 0) = true := by decide +kernel
theorem no_token {c : UInt8} {r : List UInt8} (h : tableF c = 0) : Lex.next (c :: r) = .bad 3 := by
  unfold tableF at h
  unfold Lex.next
  rw [List.headD_cons]
  by_cases h1 : Lex.letter c = true
  · rw [if_pos h1] at h; exact absurd h (by decide)
  · rw [if_neg h1] at h ⊢
    by_cases h2 : Lex.digit c = true
    · rw [if_pos h2] at h; exact absurd h (by decide)
    · rw [if_neg h2] at h ⊢
      by_cases h3 : symStarts.contains c = true
      · rw [if_pos h3] at h; exact absurd h (by decide)
      · have hno : ∀ x, x.headD 0 = c → Lex.symbols.contains x = false := by
          intro x hx
          rw [Bool.eq_false_iff]
          intro hc
          rw [List.contains_iff_mem] at hc
          have := sym_head x hc
          rw [hx] at this
          exact h3 this
        refine symbolAt_no ?_ (hno _ rfl)
        rintro ⟨_, h5⟩
        rw [hno ((c :: r).take 2) (by simp)] at h5
        cases h5

/-- which function reads the token, and what it returns -/
theorem reads_token (x : ByteArray) (c : UInt8) (r : List UInt8) (hl : x.data.toList = c :: r) (hs : x.size ≤ 16384) :
    (tableF c = 0 ∧ Lex.next (c :: r) = .bad 3) ∨
    (tableF c = 31 ∧ ∀ w0, LexEnv w0 → Calls Tryd.prog 31 #[.string x] w0 fun e w' => e = .returned (gotV 0 (Lex.next (c :: r))) ∧ Below w0.heap.size w0 w') ∨
    (tableF c = 30 ∧ ∀ w0, LexEnv w0 → Calls Tryd.prog 30 #[.string x] w0 fun e w' => e = .returned (gotV 0 (Lex.next (c :: r))) ∧ Below w0.heap.size w0 w') ∨
    (tableF c = 32 ∧ ∀ w0, LexEnv w0 → Calls Tryd.prog 32 #[.string x] w0 fun e w' => e = .returned (gotV 0 (Lex.next (c :: r))) ∧ Below w0.heap.size w0 w') := by
  have hpos : 0 < x.size := by rw [Lib.size_eq, hl]; simp
  by_cases h1 : Lex.letter c = true
  · refine .inr (.inl ⟨by unfold tableF; rw [if_pos h1], fun w0 hE => ?_⟩)
    have h := name_any x c r w0 hE (by omega) hl h1
    rw [hl] at h
    unfold Lex.next
    rw [List.headD_cons, if_pos h1]
    exact h
  · by_cases h2 : Lex.digit c = true
    · refine .inr (.inr (.inl ⟨by unfold tableF; rw [if_neg h1, if_pos h2], fun w0 hE => ?_⟩))
      have h := number_any x c r w0 hE (by omega) hl h2
      rw [hl] at h
      unfold Lex.next
      rw [List.headD_cons, if_neg h1, if_pos h2]
      exact h
    · by_cases h3 : symStarts.contains c = true
      · refine .inr (.inr (.inr ⟨by unfold tableF; rw [if_neg h1, if_neg h2, if_pos h3], fun w0 hE => ?_⟩))
        have h := symbol_any x w0 hE (by omega) hpos
        rw [hl] at h
        unfold Lex.next
        rw [List.headD_cons, if_neg h1, if_neg h2]
        exact h
      · have h0 : tableF c = 0 := by unfold tableF; rw [if_neg h1, if_neg h2, if_neg h3]
        exact .inl ⟨h0, no_token h0⟩

/-- the invariant of the loop over the tokens -/
structure LoopInv (s : ByteArray) (w : World) (M : Nat) (x : ByteArray) (k : Nat) (ts : List Lex.Tok) (out : Value) (wr : World) : Prop where
  le : k ≤ s.size
  text : x.data.toList = rest s k
  few : ts.length ≤ k
  own : wr.ownsRow w.heap.size 30 4 out ts.length (toksCells ts)
  below : Below w.heap.size w wr
  table : TableAt wr M 78 tableF
  same : ∃ f, (rest s k).length ≤ f ∧ Lex.scan s.data.toList = Lex.pre ts (Lex.scanF s.size f (rest s k))

theorem bad_at {s x : ByteArray} {w : World} {M k : Nat} {ts : List Lex.Tok} {out : Value} {wr : World} {c : UInt8} {r : List UInt8} {er : Nat} (I : LoopInv s w M x k ts out wr) (hx : x.data.toList = c :: r) (hG : Lex.next (c :: r) = .bad er) :
    Lex.scan s.data.toList = .bad k er := by
  obtain ⟨f, hf, hsame⟩ := I.same
  have hr := I.text
  rw [hx] at hr
  have hrl := rest_len s k
  rw [← hr] at hf hsame hrl
  have hk := I.le
  rw [List.length_cons] at hf
  obtain ⟨g, rfl⟩ : ∃ g, f = g + 1 := ⟨f - 1, by omega⟩
  rw [hsame, Lex.scanF_bad hG, hrl]
  simp only [Lex.pre]
  congr 1
  omega

theorem own_not_map {w : World} {B M n : Nat} {e : TypeId} {size m : Nat} {v : Value} {xs : List Value} {f : UInt8 → Nat} (h : w.ownsRow B e size v m xs) (hM : TableAt w M n f) : v.ownBlock ≠ some M := by
  intro hb
  obtain ⟨D, _, ⟨es, clock, hm, _⟩, _⟩ := hM
  rcases h.2 with ⟨rfl, _⟩ | ⟨g, cap, cur, rfl, _, hg, _⟩
  · simp [Value.ownBlock] at hb
  · simp only [Value.ownBlock, Option.some.injEq] at hb
    rw [hb, hm] at hg
    cases hg
theorem TableAt.grown {w w' : World} {M n : Nat} {f : UInt8 → Nat} {row : Option Nat} (h : TableAt w M n f) (hg : w.grownBy w' row) (hne : row ≠ some M) : TableAt w' M n f := by
  obtain ⟨D, h1, h2, h3⟩ := h; exact ⟨D, h1, h2.kept hg (fun e => hne e.symm), h3⟩

theorem loop_step {s x : ByteArray} {w : World} {M k : Nat} {ts : List Lex.Tok} {out : Value} {wr : World} {c : UInt8} {r : List UInt8} {kd : Nat} {tx : List UInt8} {vl : Nat} (I : LoopInv s w M x k ts out wr) (hx : x.data.toList = c :: r) (hG : Lex.next (c :: r) = .tok kd tx vl)
    {x' : ByteArray} (hx' : x'.data.toList = Lex.skip false ((c :: r).drop tx.length)) {v' : Value} {wb : World} (hown : wb.ownsRow w.heap.size 30 4 v' (ts.length + 1) (toksCells ts ++ tokCells ⟨kd, tx, vl, k⟩)) (hbel : Below w.heap.size w wb) (htab : TableAt wb M 78 tableF) :
    x'.size < x.size ∧ LoopInv s w M x' (s.size - x'.size) (ts ++ [⟨kd, tx, vl, k⟩]) v' wb := by
  obtain ⟨f, hf, hsame⟩ := I.same
  have hr := I.text
  rw [hx] at hr
  have hrl := rest_len s k
  rw [← hr] at hf hsame hrl
  have hk := I.le
  have hfew := I.few
  obtain ⟨htx, hp, hle⟩ := Lex.next_text hG
  rw [List.length_cons] at hf
  have hsk := Lex.skip_le false ((c :: r).drop tx.length)
  rw [List.length_drop] at hsk
  have hxs : x'.size = (Lex.skip false ((c :: r).drop tx.length)).length := by rw [Lib.size_eq, hx']
  have hxx : x.size = (c :: r).length := by rw [Lib.size_eq, hx]
  obtain ⟨g, rfl⟩ : ∃ g, f = g + 1 := ⟨f - 1, by rw [List.length_cons] at hrl; omega⟩
  have hdrop : (c :: r).drop tx.length = rest s (k + tx.length) := by rw [hr]; unfold rest; rw [List.drop_drop]
  have hrs : rest s (s.size - x'.size) = Lex.skip false ((c :: r).drop tx.length) := by
    rw [hxs, hdrop]
    exact rest_skip s (k + tx.length) (by omega)
  refine ⟨by omega, by omega, by rw [hx', hrs], by rw [List.length_append, List.length_singleton]; omega, by rw [List.length_append, toksCells_snoc]; exact hown, hbel, htab, g, by rw [hrs]; rw [List.length_cons] at hle hsk; omega, ?_⟩
  rw [hsame, Lex.scanF_tok hG, hrs, hrl, show s.size - (s.size - k) = k by omega]

set_option maxRecDepth 100000 in
set_option maxHeartbeats 1000000 in
theorem scan_any_long (s : ByteArray) (w : World) (hs : s.size ≤ 9223372036854775800) (hl : 16384 < s.size) :
    Calls Tryd.prog 10 #[.string s] w (ScanPost s w) := by
  go_enter Tryd.func10, Tryd.ntmps10
  go_wp2_with fail
  go_ret3
  exact .inl ⟨0, 8, by unfold Lex.scan; rw [if_pos (by rw [← Lib.size_eq]; exact hl)], rfl, Below.refl _ _⟩

set_option maxRecDepth 100000 in
set_option maxHeartbeats 1000000 in
theorem scan_any_short (s : ByteArray) (w : World) (hE : LexEnv w) (hl : s.size ≤ 16384) :
    Calls Tryd.prog 10 #[.string s] w (ScanPost s w) := by
  obtain ⟨i0, hi, hz0, hz1, hz2⟩ := info_parts tokInfo
  have feq := fn_eq_nil
  have feq2 := fn_eq_fn
  have HE := Lib.hid hE
  clear hE
  go_enter Tryd.func10, Tryd.ntmps10
  go_wp2_with fail
  refine (scanners_any _).mono ?_
  rintro e w1 ⟨rfl, hT1, hb1⟩
  have HT1 := Lib.hid hT1
  clear hT1
  have hs1 := hb1.size
  go_wp2_with fail
  refine (skip_any _ _).mono ?_
  rintro e w2 ⟨rfl, hb2⟩
  have hs2 := hb2.size
  go_wp2_with fail
  go_loopw [5, 7] (fun out v wr => ∃ (x : ByteArray) (k : Nat) (ts : List Lex.Tok), v = .string x ∧ LoopInv s w w.heap.size x k ts out wr) (fun _ v _ => strLen v)
  case atStart =>
    have h0 : rest s 0 = s.data.toList := by unfold rest; rw [List.drop_zero]
    have hk := rest_skip s 0 (Nat.zero_le _)
    rw [h0] at hk
    have hle := Lex.skip_le false s.data.toList
    rw [← Lib.size_eq] at hle
    refine ⟨_, s.size - (Lex.skip false s.data.toList).length, [], rfl, ?_⟩
    refine ⟨by omega, hk.symm, by simp, World.ownsRow_nil _ _ _ _, (hb1.trans (hb2.mono hs1)), HT1.out.keep hb2, s.size, by rw [rest_len]; omega, ?_⟩
    rw [Lex.pre_nil]
    unfold Lex.scan
    rw [if_neg (by rw [← Lib.size_eq]; omega), ← Lib.size_eq, hk]
  case round =>
    obtain ⟨x, k, ts, rfl, I⟩ := hrel
    have hk := I.le
    have hfew := I.few
    have hown := I.own
    have hbel := I.below
    have hsz := hbel.size
    have hxl : x.size = s.size - k := by rw [Lib.size_eq, I.text, rest_len]
    have II := Lib.hid I
    cases hr : rest s k with
    | nil =>
      have hrl := rest_len s k
      rw [hr, List.length_nil] at hrl
      have hx0 : x.toList.isEmpty = true := by rw [Lib.toList_data, I.text, hr]; rfl
      have hx1 : x.toList = [] := by rw [Lib.toList_data, I.text, hr]
      have HR := Lib.hid hr
      have hx2 : x.size = 0 := by omega
      have hke : s.size ≤ k := by omega
      clear hr I hrl hxl
      go_wp2_with (at_builtin; refine wpList_append_own _ rfl _ _ 23 rfl w.heap.size 30 i0 (.agg #[.int .i64 0, .string ⟨#[]⟩, .int .i64 0, .int .i64 0]) 4 40 Tryd.underlying23 hi hz0 hz1 hz2 rfl (by decide) _ _ _ rfl (hown.alloc _) ⟨wr.heap.size, 0, none⟩ 1 1 [.int .i64 0, .string ⟨#[]⟩, .int .i64 0, .int .i64 s.size] rfl rfl (news_cells (cs := #[.int .i64 0, .string ⟨#[]⟩, .int .i64 0, .int .i64 s.size]) rfl (by simp)) (by simp [Value.oneCell']) (by unfold maxLen; omega) (by omega) (by simp <;> omega) ?_; intro v' wa howna hgrow hnil)
      go_ret3
      have J := II.out
      refine .inr ⟨ts ++ [⟨0, [], 0, s.size⟩], v', ?_, rfl, ?_, ?_⟩
      · obtain ⟨f, hf, hsame⟩ := J.same
        rw [hsame, HR.out, Lex.scanF_nil]; rfl
      · rw [toksCells_snoc, List.length_append]; exact howna
      · exact (hbel.alloc (by omega) _).grown hgrow (by simp <;> omega) fun q hq => (hown.lt q hq).1
    | cons c r =>
      have hrl := rest_len s k
      rw [hr, List.length_cons] at hrl
      have hlt : k < s.size := by omega
      have hxt : x.data.toList = c :: r := by rw [I.text, hr]
      have hx0 : x.toList.isEmpty = false := by rw [Lib.toList_data, hxt]; rfl
      have hget : ∀ h : 0 < x.size, x[0]'h = c := by
        intro h
        have h2 := head_get x h
        rw [← h2, hxt]; rfl
      have hpos : 0 < x.size := by omega
      have hx16 : x.size ≤ 16384 := by omega
      have hlook := table_look I.table c
      have hrd := reads_token x c r hxt hx16
      have hat : ((s.size : Int) - (x.size : Int)) = (k : Int) := by omega
      have HXT := Lib.hid hxt
      have HXL := Lib.hid hxl
      have HRL := Lib.hid hrl
      have HR := Lib.hid hr
      clear hr hrl hxl hxt I
      rcases hrd with ⟨h0, h1⟩ | ⟨h0, hf⟩ | ⟨h0, hf⟩ | ⟨h0, hf⟩
      · rw [h0, if_pos rfl] at hlook
        have H1 := Lib.hid h1
        clear h0 h1
        go_wp2_with fail
        go_ret3
        exact .inl ⟨k, 3, bad_at II.out HXT.out H1.out, rfl, hbel⟩
      · rw [h0, if_neg (by decide)] at hlook
        unfold fnV at hlook
        cases hG : Lex.next (c :: r) with
        | bad er =>
          have hne : ((er : Int) != 0) = true := by
            rw [bne_iff_ne]
            have := Lex.next_bad hG
            omega
          have hN : ∀ w0, LexEnv w0 → Calls Tryd.prog 31 #[.string x] w0 fun e w' => e = .returned (.tuple #[.agg #[.int .i64 0, .string ⟨#[]⟩, .int .i64 0, .int .i64 0], .int .i64 er]) ∧ Below w0.heap.size w0 w' := by
            intro w0 hE0
            have h := hf w0 hE0
            rw [hG] at h
            exact h
          have HN := Lib.hid hN
          have HG := Lib.hid hG
          clear hN hG hf h0
          go_wp2_with (go_at_call 31; refine (HN.out _ (HE.out.keep hbel)).mono ?_; rintro e w3 ⟨rfl, hb3⟩)
          go_ret3
          refine .inl ⟨k, er, bad_at II.out HXT.out HG.out, rfl, ?_⟩
          exact (hbel.trans (hb3.mono (by omega))).alloc (by have := hb3.size; omega) _
        | tok kd tx vl =>
          have hN : ∀ w0, LexEnv w0 → Calls Tryd.prog 31 #[.string x] w0 fun e w' => e = .returned (.tuple #[.agg #[.int .i64 kd, .string ⟨tx.toArray⟩, .int .i64 vl, .int .i64 0], .int .i64 0]) ∧ Below w0.heap.size w0 w' := by
            intro w0 hE0
            have h := hf w0 hE0
            rw [hG] at h
            exact h
          obtain ⟨htx, hp, hle⟩ := Lex.next_text hG
          rw [List.length_cons] at hle
          have hle3 : tx.length ≤ x.size := by have h1 := HXL.out; have h2 := HRL.out; omega
          have HN := Lib.hid hN
          have HG := Lib.hid hG
          clear hN hG hf h0 htx hle
          go_wp2_with (first | (go_at_call 31; refine (HN.out _ (HE.out.keep hbel)).mono ?_; rintro e w3 ⟨rfl, hb3⟩; have hown3 := own_below hown hb3; have hs3 := hb3.size) | (at_builtin; refine wpList_append_own _ rfl _ _ 23 rfl w.heap.size 30 i0 (.agg #[.int .i64 0, .string ⟨#[]⟩, .int .i64 0, .int .i64 0]) 4 40 Tryd.underlying23 hi hz0 hz1 hz2 rfl (by decide) _ _ _ rfl (hown3.alloc _ |>.alloc _) ⟨w3.heap.size + 1, 0, none⟩ 1 1 [.int .i64 kd, .string ⟨tx.toArray⟩, .int .i64 vl, .int .i64 k] rfl rfl (news_cells (cs := #[.int .i64 kd, .string ⟨tx.toArray⟩, .int .i64 vl, .int .i64 k]) rfl (by simp)) (by simp [Value.oneCell']) (by unfold maxLen; omega) (by omega) (by simp <;> omega) ?_; intro v' wa howna hgrow hnil; have hc2 := hgrow.cell (a := ⟨w3.heap.size, 1, none⟩) (v := .string ⟨tx.toArray⟩) (by simp) (fun e => by have := (hown.lt _ e.symm).2; simp at this; omega)) | (go_at_call 23; refine (skip_any _ _).mono ?_; rintro e w5 ⟨rfl, hb5⟩))
          have hsa := hgrow.size
          have hne5 := own_not_map hown II.out.table
          have hst := loop_step (x' := ⟨(Lex.skip false (List.take (x.size - tx.length) (List.drop tx.length x.data.toList))).toArray⟩) II.out HXT.out HG.out (by show Lex.skip false _ = _; rw [List.take_of_length_le (by rw [List.length_drop, ← Lib.size_eq]; omega), HXT.out]) (own_below howna hb5)
            (((((hbel.trans (hb3.mono (by omega))).alloc (by omega) _).alloc (by simp <;> omega) _).grown hgrow (by simp <;> omega) fun q hq => (hown.lt q hq).1).trans (hb5.mono (by simp at hsa; omega)))
            (((((II.out.table.keep hb3).alloc _).alloc _).grown hgrow hne5).keep hb5)
          go_roundw
          case rel => exact ⟨_, _, _, rfl, hst.2⟩
          case measure => exact hst.1
      · rw [h0, if_neg (by decide)] at hlook
        unfold fnV at hlook
        cases hG : Lex.next (c :: r) with
        | bad er =>
          have hne : ((er : Int) != 0) = true := by
            rw [bne_iff_ne]
            have := Lex.next_bad hG
            omega
          have hN : ∀ w0, LexEnv w0 → Calls Tryd.prog 30 #[.string x] w0 fun e w' => e = .returned (.tuple #[.agg #[.int .i64 0, .string ⟨#[]⟩, .int .i64 0, .int .i64 0], .int .i64 er]) ∧ Below w0.heap.size w0 w' := by
            intro w0 hE0
            have h := hf w0 hE0
            rw [hG] at h
            exact h
          have HN := Lib.hid hN
          have HG := Lib.hid hG
          clear hN hG hf h0
          go_wp2_with (go_at_call 30; refine (HN.out _ (HE.out.keep hbel)).mono ?_; rintro e w3 ⟨rfl, hb3⟩)
          go_ret3
          refine .inl ⟨k, er, bad_at II.out HXT.out HG.out, rfl, ?_⟩
          exact (hbel.trans (hb3.mono (by omega))).alloc (by have := hb3.size; omega) _
        | tok kd tx vl =>
          have hN : ∀ w0, LexEnv w0 → Calls Tryd.prog 30 #[.string x] w0 fun e w' => e = .returned (.tuple #[.agg #[.int .i64 kd, .string ⟨tx.toArray⟩, .int .i64 vl, .int .i64 0], .int .i64 0]) ∧ Below w0.heap.size w0 w' := by
            intro w0 hE0
            have h := hf w0 hE0
            rw [hG] at h
            exact h
          obtain ⟨htx, hp, hle⟩ := Lex.next_text hG
          rw [List.length_cons] at hle
          have hle3 : tx.length ≤ x.size := by have h1 := HXL.out; have h2 := HRL.out; omega
          have HN := Lib.hid hN
          have HG := Lib.hid hG
          clear hN hG hf h0 htx hle
          go_wp2_with (first | (go_at_call 30; refine (HN.out _ (HE.out.keep hbel)).mono ?_; rintro e w3 ⟨rfl, hb3⟩; have hown3 := own_below hown hb3; have hs3 := hb3.size) | (at_builtin; refine wpList_append_own _ rfl _ _ 23 rfl w.heap.size 30 i0 (.agg #[.int .i64 0, .string ⟨#[]⟩, .int .i64 0, .int .i64 0]) 4 40 Tryd.underlying23 hi hz0 hz1 hz2 rfl (by decide) _ _ _ rfl (hown3.alloc _ |>.alloc _) ⟨w3.heap.size + 1, 0, none⟩ 1 1 [.int .i64 kd, .string ⟨tx.toArray⟩, .int .i64 vl, .int .i64 k] rfl rfl (news_cells (cs := #[.int .i64 kd, .string ⟨tx.toArray⟩, .int .i64 vl, .int .i64 k]) rfl (by simp)) (by simp [Value.oneCell']) (by unfold maxLen; omega) (by omega) (by simp <;> omega) ?_; intro v' wa howna hgrow hnil; have hc2 := hgrow.cell (a := ⟨w3.heap.size, 1, none⟩) (v := .string ⟨tx.toArray⟩) (by simp) (fun e => by have := (hown.lt _ e.symm).2; simp at this; omega)) | (go_at_call 23; refine (skip_any _ _).mono ?_; rintro e w5 ⟨rfl, hb5⟩))
          have hsa := hgrow.size
          have hne5 := own_not_map hown II.out.table
          have hst := loop_step (x' := ⟨(Lex.skip false (List.take (x.size - tx.length) (List.drop tx.length x.data.toList))).toArray⟩) II.out HXT.out HG.out (by show Lex.skip false _ = _; rw [List.take_of_length_le (by rw [List.length_drop, ← Lib.size_eq]; omega), HXT.out]) (own_below howna hb5)
            (((((hbel.trans (hb3.mono (by omega))).alloc (by omega) _).alloc (by simp <;> omega) _).grown hgrow (by simp <;> omega) fun q hq => (hown.lt q hq).1).trans (hb5.mono (by simp at hsa; omega)))
            (((((II.out.table.keep hb3).alloc _).alloc _).grown hgrow hne5).keep hb5)
          go_roundw
          case rel => exact ⟨_, _, _, rfl, hst.2⟩
          case measure => exact hst.1
      · rw [h0, if_neg (by decide)] at hlook
        unfold fnV at hlook
        cases hG : Lex.next (c :: r) with
        | bad er =>
          have hne : ((er : Int) != 0) = true := by
            rw [bne_iff_ne]
            have := Lex.next_bad hG
            omega
          have hN : ∀ w0, LexEnv w0 → Calls Tryd.prog 32 #[.string x] w0 fun e w' => e = .returned (.tuple #[.agg #[.int .i64 0, .string ⟨#[]⟩, .int .i64 0, .int .i64 0], .int .i64 er]) ∧ Below w0.heap.size w0 w' := by
            intro w0 hE0
            have h := hf w0 hE0
            rw [hG] at h
            exact h
          have HN := Lib.hid hN
          have HG := Lib.hid hG
          clear hN hG hf h0
          go_wp2_with (go_at_call 32; refine (HN.out _ (HE.out.keep hbel)).mono ?_; rintro e w3 ⟨rfl, hb3⟩)
          go_ret3
          refine .inl ⟨k, er, bad_at II.out HXT.out HG.out, rfl, ?_⟩
          exact (hbel.trans (hb3.mono (by omega))).alloc (by have := hb3.size; omega) _
        | tok kd tx vl =>
          have hN : ∀ w0, LexEnv w0 → Calls Tryd.prog 32 #[.string x] w0 fun e w' => e = .returned (.tuple #[.agg #[.int .i64 kd, .string ⟨tx.toArray⟩, .int .i64 vl, .int .i64 0], .int .i64 0]) ∧ Below w0.heap.size w0 w' := by
            intro w0 hE0
            have h := hf w0 hE0
            rw [hG] at h
            exact h
          obtain ⟨htx, hp, hle⟩ := Lex.next_text hG
          rw [List.length_cons] at hle
          have hle3 : tx.length ≤ x.size := by have h1 := HXL.out; have h2 := HRL.out; omega
          have HN := Lib.hid hN
          have HG := Lib.hid hG
          clear hN hG hf h0 htx hle
          go_wp2_with (first | (go_at_call 32; refine (HN.out _ (HE.out.keep hbel)).mono ?_; rintro e w3 ⟨rfl, hb3⟩; have hown3 := own_below hown hb3; have hs3 := hb3.size) | (at_builtin; refine wpList_append_own _ rfl _ _ 23 rfl w.heap.size 30 i0 (.agg #[.int .i64 0, .string ⟨#[]⟩, .int .i64 0, .int .i64 0]) 4 40 Tryd.underlying23 hi hz0 hz1 hz2 rfl (by decide) _ _ _ rfl (hown3.alloc _ |>.alloc _) ⟨w3.heap.size + 1, 0, none⟩ 1 1 [.int .i64 kd, .string ⟨tx.toArray⟩, .int .i64 vl, .int .i64 k] rfl rfl (news_cells (cs := #[.int .i64 kd, .string ⟨tx.toArray⟩, .int .i64 vl, .int .i64 k]) rfl (by simp)) (by simp [Value.oneCell']) (by unfold maxLen; omega) (by omega) (by simp <;> omega) ?_; intro v' wa howna hgrow hnil; have hc2 := hgrow.cell (a := ⟨w3.heap.size, 1, none⟩) (v := .string ⟨tx.toArray⟩) (by simp) (fun e => by have := (hown.lt _ e.symm).2; simp at this; omega)) | (go_at_call 23; refine (skip_any _ _).mono ?_; rintro e w5 ⟨rfl, hb5⟩))
          have hsa := hgrow.size
          have hne5 := own_not_map hown II.out.table
          have hst := loop_step (x' := ⟨(Lex.skip false (List.take (x.size - tx.length) (List.drop tx.length x.data.toList))).toArray⟩) II.out HXT.out HG.out (by show Lex.skip false _ = _; rw [List.take_of_length_le (by rw [List.length_drop, ← Lib.size_eq]; omega), HXT.out]) (own_below howna hb5)
            (((((hbel.trans (hb3.mono (by omega))).alloc (by omega) _).alloc (by simp <;> omega) _).grown hgrow (by simp <;> omega) fun q hq => (hown.lt q hq).1).trans (hb5.mono (by simp at hsa; omega)))
            (((((II.out.table.keep hb3).alloc _).alloc _).grown hgrow hne5).keep hb5)
          go_roundw
          case rel => exact ⟨_, _, _, rfl, hst.2⟩
          case measure => exact hst.1

theorem scan_any (s : ByteArray) (w : World) (hE : LexEnv w) (hs : s.size ≤ 9223372036854775800) : Calls Tryd.prog 10 #[.string s] w (ScanPost s w) := by
  by_cases h : s.size ≤ 16384
  · exact scan_any_short s w hE h
  · exact scan_any_long s w hs (by omega)
end Go.Proofs.YthbipapihdppmaaDoor
