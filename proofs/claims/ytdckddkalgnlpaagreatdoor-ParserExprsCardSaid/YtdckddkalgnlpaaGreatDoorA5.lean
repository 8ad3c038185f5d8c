/-
  Several texts in one: LexProgH, LexFmt, LexAwake, LexLawScans, LexChain, LexExt, LexDec, SySpec.
-/
import Derived.Test.YtdckddkalgnlpaaGreatDoorA4
import Derived.Test.YtdckddkalgnlpaaGreatDoorA1
namespace Go.Proofs.YtdckddkalgnlpaaGreatDoor
open Go.RowKit Go.Maps
theorem fnZero (w : World) : (zeroValue 75).run Tryz.prog w = .ok .nilFunc w := by kernel_rfl
theorem fnTag_nil : fnTag .nilFunc = some (.lit (.int .i64 0), []) := rfl
theorem fn_eq_nil (w : World) : (binOp .eql 75 .nilFunc .nilFunc).run Tryz.prog w = .ok (.bool true) w := by kernel_rfl
theorem fn_eq_fn (n : Nat) (w : World) : (binOp .eql 75 (.func (.func n) #[] #[]) .nilFunc).run Tryz.prog w = .ok (.bool false) w := by kernel_rfl
theorem table_look {w : World} {M n : Nat} {f : UInt8 → Nat} (h : TableAt w M n f) (c : UInt8) :
 (Instr.lookup 72 (.map (some M)) (.int .u8 c.toNat) false).run Tryz.prog w = .ok (if f c = 0 then .nilFunc else fnV (f c)) w := by
 obtain ⟨D, h1, h2, h3⟩ := h
 obtain ⟨v, ps, hrun, hv⟩ := h2.lookup keyU8 Tryz.underlying72 (fnZero w) fnTag_nil (keyOfU8 c)
 rw [h3 c] at hv
 rw [hrun, fnTag_inv hv]
theorem sym_head : ∀ x ∈ Lex.symbols, symStarts.contains (x.headD 0) = true := by decide +kernel
theorem no_token {c : UInt8} {r : List UInt8} (h : tableF c = 0) : Lex.next (c :: r) = .bad 3 := by
 unfold tableF at h
 unfold Lex.next
 rw [List.headD_cons]
 by_cases h1 : Lex.letter c = true
 ·rw [if_pos h1] at h; exact absurd h (by decide)
 ·rw [if_neg h1] at h ⊢
  by_cases h2 : Lex.digit c = true
  ·rw [if_pos h2] at h; exact absurd h (by decide)
  ·rw [if_neg h2] at h ⊢
   by_cases h3 : symStarts.contains c = true
   ·rw [if_pos h3] at h; exact absurd h (by decide)
   ·have hno : ∀ x, x.headD 0 = c → Lex.symbols.contains x = false := by
     intro x hx
     rw [Bool.eq_false_iff]
     intro hc
     rw [List.contains_iff_mem] at hc
     have := sym_head x hc
     rw [hx] at this
     exact h3 this
    refine symbolAt_no ?_ (hno _ rfl)
    rintro ⟨_, h5⟩
    rw [hno ((c :: r).take 2) (by simp)] at h5
    cases h5
theorem reads_token (x : ByteArray) (c : UInt8) (r : List UInt8) (hl : x.data.toList = c :: r) (hs : x.size ≤ 16384) :
 (tableF c = 0 ∧ Lex.next (c :: r) = .bad 3) ∨
 (tableF c = 79 ∧ ∀ w0, LexEnv w0 → Calls Tryz.prog 79 #[.string x] w0 fun e w' => e = .returned (gotV 0 (Lex.next (c :: r))) ∧ Below w0.heap.size w0 w') ∨
 (tableF c = 78 ∧ ∀ w0, LexEnv w0 → Calls Tryz.prog 78 #[.string x] w0 fun e w' => e = .returned (gotV 0 (Lex.next (c :: r))) ∧ Below w0.heap.size w0 w') ∨
 (tableF c = 80 ∧ ∀ w0, LexEnv w0 → Calls Tryz.prog 80 #[.string x] w0 fun e w' => e = .returned (gotV 0 (Lex.next (c :: r))) ∧ Below w0.heap.size w0 w') := by
 have hpos : 0 < x.size := by rw [Lib.size_eq, hl]; simp
 by_cases h1 : Lex.letter c = true
 ·refine .inr (.inl ⟨by unfold tableF; rw [if_pos h1], fun w0 hE => ?_⟩)
  have h := name_any x c r w0 hE (by omega) hl h1
  rw [hl] at h
  unfold Lex.next
  rw [List.headD_cons, if_pos h1]
  exact h
 ·by_cases h2 : Lex.digit c = true
  ·refine .inr (.inr (.inl ⟨by unfold tableF; rw [if_neg h1, if_pos h2], fun w0 hE => ?_⟩))
   have h := number_any x c r w0 hE (by omega) hl h2
   rw [hl] at h
   unfold Lex.next
   rw [List.headD_cons, if_neg h1, if_pos h2]
   exact h
  ·by_cases h3 : symStarts.contains c = true
   ·refine .inr (.inr (.inr ⟨by unfold tableF; rw [if_neg h1, if_neg h2, if_pos h3], fun w0 hE => ?_⟩))
    have h := symbol_any x w0 hE (by omega) hpos
    rw [hl] at h
    unfold Lex.next
    rw [List.headD_cons, if_neg h1, if_neg h2]
    exact h
   ·have h0 : tableF c = 0 := by unfold tableF; rw [if_neg h1, if_neg h2, if_neg h3]
    exact .inl ⟨h0, no_token h0⟩
structure LoopInv (s : ByteArray) (w : World) (M : Nat) (x : ByteArray) (k : Nat) (ts : List Lex.Tok) (out : Value) (wr : World) : Prop where
 le : k ≤ s.size
 text : x.data.toList = rest s k
 few : ts.length ≤ k
 own : wr.ownsRow w.heap.size 59 4 out ts.length (toksCells ts)
 below : Below w.heap.size w wr
 table : TableAt wr M 78 tableF
 same : ∃ f, (rest s k).length ≤ f ∧ Lex.scan s.data.toList = Lex.pre ts (Lex.scanF s.size f (rest s k))
theorem bad_at {s x : ByteArray} {w : World} {M k : Nat} {ts : List Lex.Tok} {out : Value} {wr : World} {c : UInt8} {r : List UInt8} {er : Nat} (I : LoopInv s w M x k ts out wr) (hx : x.data.toList = c :: r) (hG : Lex.next (c :: r) = .bad er) :
 Lex.scan s.data.toList = .bad k er := by
 obtain ⟨f, hf, hsame⟩ := I.same
 have hr := I.text
 rw [hx] at hr
 have hrl := rest_len s k
 rw [← hr] at hf hsame hrl
 have hk := I.le
 rw [List.length_cons] at hf
 obtain ⟨g, rfl⟩ : ∃ g, f = g + 1 := ⟨f - 1, by omega⟩
 rw [hsame, Lex.scanF_bad hG, hrl]
 simp only [Lex.pre]
 congr 1
 omega
theorem own_not_map {w : World} {B M n : Nat} {e : TypeId} {size m : Nat} {v : Value} {xs : List Value} {f : UInt8 → Nat} (h : w.ownsRow B e size v m xs) (hM : TableAt w M n f) : v.ownBlock ≠ some M := by
 intro hb
 obtain ⟨D, _, ⟨es, clock, hm, _⟩, _⟩ := hM
 rcases h.2 with ⟨rfl, _⟩ | ⟨g, cap, cur, rfl, _, hg, _⟩
 ·simp [Value.ownBlock] at hb
 ·simp only [Value.ownBlock, Option.some.injEq] at hb
  rw [hb, hm] at hg
  cases hg
theorem TableAt.grown {w w' : World} {M n : Nat} {f : UInt8 → Nat} {row : Option Nat} (h : TableAt w M n f) (hg : w.grownBy w' row) (hne : row ≠ some M) : TableAt w' M n f := by
 obtain ⟨D, h1, h2, h3⟩ := h; exact ⟨D, h1, h2.kept hg (fun e => hne e.symm), h3⟩
theorem loop_step {s x : ByteArray} {w : World} {M k : Nat} {ts : List Lex.Tok} {out : Value} {wr : World} {c : UInt8} {r : List UInt8} {kd : Nat} {tx : List UInt8} {vl : Nat} (I : LoopInv s w M x k ts out wr) (hx : x.data.toList = c :: r) (hG : Lex.next (c :: r) = .tok kd tx vl)
 {x' : ByteArray} (hx' : x'.data.toList = Lex.skip false ((c :: r).drop tx.length)) {v' : Value} {wb : World} (hown : wb.ownsRow w.heap.size 59 4 v' (ts.length + 1) (toksCells ts ++ tokCells ⟨kd, tx, vl, k⟩)) (hbel : Below w.heap.size w wb) (htab : TableAt wb M 78 tableF) :
 x'.size < x.size ∧ LoopInv s w M x' (s.size - x'.size) (ts ++ [⟨kd, tx, vl, k⟩]) v' wb := by
 obtain ⟨f, hf, hsame⟩ := I.same
 have hr := I.text
 rw [hx] at hr
 have hrl := rest_len s k
 rw [← hr] at hf hsame hrl
 have hk := I.le
 have hfew := I.few
 obtain ⟨htx, hp, hle⟩ := Lex.next_text hG
 rw [List.length_cons] at hf
 have hsk := Lex.skip_le false ((c :: r).drop tx.length)
 rw [List.length_drop] at hsk
 have hxs : x'.size = (Lex.skip false ((c :: r).drop tx.length)).length := by rw [Lib.size_eq, hx']
 have hxx : x.size = (c :: r).length := by rw [Lib.size_eq, hx]
 obtain ⟨g, rfl⟩ : ∃ g, f = g + 1 := ⟨f - 1, by rw [List.length_cons] at hrl; omega⟩
 have hdrop : (c :: r).drop tx.length = rest s (k + tx.length) := by rw [hr]; unfold rest; rw [List.drop_drop]
 have hrs : rest s (s.size - x'.size) = Lex.skip false ((c :: r).drop tx.length) := by
  rw [hxs, hdrop]
  exact rest_skip s (k + tx.length) (by omega)
 refine ⟨by omega, by omega, by rw [hx', hrs], by rw [List.length_append, List.length_singleton]; omega, by rw [List.length_append, toksCells_snoc]; exact hown, hbel, htab, g, by rw [hrs]; rw [List.length_cons] at hle hsk; omega, ?_⟩
 rw [hsame, Lex.scanF_tok hG, hrs, hrl, show s.size - (s.size - k) = k by omega]
set_option maxRecDepth 100000 in
set_option maxHeartbeats 1000000 in
theorem scan_any_long (s : ByteArray) (w : World) (hs : s.size ≤ 9223372036854775800) (hl : 16384 < s.size) :
 Calls Tryz.prog 16 #[.string s] w (ScanPost s w) := by
 go_enter Tryz.func16, Tryz.ntmps16
 go_wp2_with fail
 go_ret3
 exact .inl ⟨0, 8, by unfold Lex.scan; rw [if_pos (by rw [← Lib.size_eq]; exact hl)], rfl, Below.refl _ _⟩
set_option maxRecDepth 100000 in
set_option maxHeartbeats 1000000 in
theorem scan_any_short (s : ByteArray) (w : World) (hE : LexEnv w) (hl : s.size ≤ 16384) :
 Calls Tryz.prog 16 #[.string s] w (ScanPost s w) := by
 obtain ⟨i0, hi, hz0, hz1, hz2⟩ := info_parts tokInfo
 have feq := fn_eq_nil
 have feq2 := fn_eq_fn
 have HE := Lib.hid hE
 clear hE
 go_enter Tryz.func16, Tryz.ntmps16
 go_wp2_with fail
 refine (scanners_any _).mono ?_
 rintro e w1 ⟨rfl, hT1, hb1⟩
 have HT1 := Lib.hid hT1
 clear hT1
 have hs1 := hb1.size
 go_wp2_with fail
 refine (skip_any _ _).mono ?_
 rintro e w2 ⟨rfl, hb2⟩
 have hs2 := hb2.size
 go_wp2_with fail
 go_loopw [5, 7] (fun out v wr => ∃ (x : ByteArray) (k : Nat) (ts : List Lex.Tok), v = .string x ∧ LoopInv s w w.heap.size x k ts out wr) (fun _ v _ => strLen v)
 case atStart =>
  have h0 : rest s 0 = s.data.toList := by unfold rest; rw [List.drop_zero]
  have hk := rest_skip s 0 (Nat.zero_le _)
  rw [h0] at hk
  have hle := Lex.skip_le false s.data.toList
  rw [← Lib.size_eq] at hle
  refine ⟨_, s.size - (Lex.skip false s.data.toList).length, [], rfl, ?_⟩
  refine ⟨by omega, hk.symm, by simp, World.ownsRow_nil _ _ _ _, (hb1.trans (hb2.mono hs1)), HT1.out.keep hb2, s.size, by rw [rest_len]; omega, ?_⟩
  rw [Lex.pre_nil]
  unfold Lex.scan
  rw [if_neg (by rw [← Lib.size_eq]; omega), ← Lib.size_eq, hk]
 case round =>
  obtain ⟨x, k, ts, rfl, I⟩ := hrel
  have hk := I.le
  have hfew := I.few
  have hown := I.own
  have hbel := I.below
  have hsz := hbel.size
  have hxl : x.size = s.size - k := by rw [Lib.size_eq, I.text, rest_len]
  have II := Lib.hid I
  cases hr : rest s k with
  | nil =>
    have hrl := rest_len s k
    rw [hr, List.length_nil] at hrl
    have hx0 : x.toList.isEmpty = true := by rw [Lib.toList_data, I.text, hr]; rfl
    have hx1 : x.toList = [] := by rw [Lib.toList_data, I.text, hr]
    have HR := Lib.hid hr
    have hx2 : x.size = 0 := by omega
    have hke : s.size ≤ k := by omega
    clear hr I hrl hxl
    go_wp2_with (at_builtin; refine wpList_append_own _ rfl _ _ 37 rfl w.heap.size 59 i0 (.agg #[.int .i64 0, .string ⟨#[]⟩, .int .i64 0, .int .i64 0]) 4 40 Tryz.underlying37 hi hz0 hz1 hz2 rfl (by decide) _ _ _ rfl (hown.alloc _) ⟨wr.heap.size, 0, none⟩ 1 1 [.int .i64 0, .string ⟨#[]⟩, .int .i64 0, .int .i64 s.size] rfl rfl (news_cells (cs := #[.int .i64 0, .string ⟨#[]⟩, .int .i64 0, .int .i64 s.size]) rfl (by simp)) (by simp [Value.oneCell']) (by unfold maxLen; omega) (by omega) (by simp <;> omega) ?_; intro v' wa howna hgrow hnil)
    go_ret3
    have J := II.out
    refine .inr ⟨ts ++ [⟨0, [], 0, s.size⟩], v', ?_, rfl, ?_, ?_⟩
    ·obtain ⟨f, hf, hsame⟩ := J.same
     rw [hsame, HR.out, Lex.scanF_nil]; rfl
    ·rw [toksCells_snoc, List.length_append]; exact howna
    ·exact (hbel.alloc (by omega) _).grown hgrow (by simp <;> omega) fun q hq => (hown.lt q hq).1
  | cons c r =>
    have hrl := rest_len s k
    rw [hr, List.length_cons] at hrl
    have hlt : k < s.size := by omega
    have hxt : x.data.toList = c :: r := by rw [I.text, hr]
    have hx0 : x.toList.isEmpty = false := by rw [Lib.toList_data, hxt]; rfl
    have hget : ∀ h : 0 < x.size, x[0]'h = c := by
     intro h
     have h2 := head_get x h
     rw [← h2, hxt]; rfl
    have hpos : 0 < x.size := by omega
    have hx16 : x.size ≤ 16384 := by omega
    have hlook := table_look I.table c
    have hrd := reads_token x c r hxt hx16
    have hat : ((s.size : Int) - (x.size : Int)) = (k : Int) := by omega
    have HXT := Lib.hid hxt
    have HXL := Lib.hid hxl
    have HRL := Lib.hid hrl
    have HR := Lib.hid hr
    clear hr hrl hxl hxt I
    rcases hrd with ⟨h0, h1⟩ | ⟨h0, hf⟩ | ⟨h0, hf⟩ | ⟨h0, hf⟩
    ·rw [h0, if_pos rfl] at hlook
     have H1 := Lib.hid h1
     clear h0 h1
     go_wp2_with fail
     go_ret3
     exact .inl ⟨k, 3, bad_at II.out HXT.out H1.out, rfl, hbel⟩
    ·rw [h0, if_neg (by decide)] at hlook
     unfold fnV at hlook
     cases hG : Lex.next (c :: r) with
     | bad er =>
       have hne : ((er : Int) != 0) = true := by
        rw [bne_iff_ne]
        have := Lex.next_bad hG
        omega
       have hN : ∀ w0, LexEnv w0 → Calls Tryz.prog 79 #[.string x] w0 fun e w' => e = .returned (.tuple #[.agg #[.int .i64 0, .string ⟨#[]⟩, .int .i64 0, .int .i64 0], .int .i64 er]) ∧ Below w0.heap.size w0 w' := by
        intro w0 hE0
        have h := hf w0 hE0
        rw [hG] at h
        exact h
       have HN := Lib.hid hN
       have HG := Lib.hid hG
       clear hN hG hf h0
       go_wp2_with (go_at_call 79; refine (HN.out _ (HE.out.keep hbel)).mono ?_; rintro e w3 ⟨rfl, hb3⟩)
       go_ret3
       refine .inl ⟨k, er, bad_at II.out HXT.out HG.out, rfl, ?_⟩
       exact (hbel.trans (hb3.mono (by omega))).alloc (by have := hb3.size; omega) _
     | tok kd tx vl =>
       have hN : ∀ w0, LexEnv w0 → Calls Tryz.prog 79 #[.string x] w0 fun e w' => e = .returned (.tuple #[.agg #[.int .i64 kd, .string ⟨tx.toArray⟩, .int .i64 vl, .int .i64 0], .int .i64 0]) ∧ Below w0.heap.size w0 w' := by
        intro w0 hE0
        have h := hf w0 hE0
        rw [hG] at h
        exact h
       obtain ⟨htx, hp, hle⟩ := Lex.next_text hG
       rw [List.length_cons] at hle
       have hle3 : tx.length ≤ x.size := by have h1 := HXL.out; have h2 := HRL.out; omega
       have HN := Lib.hid hN
       have HG := Lib.hid hG
       clear hN hG hf h0 htx hle
       go_wp2_with (first | (go_at_call 79; refine (HN.out _ (HE.out.keep hbel)).mono ?_; rintro e w3 ⟨rfl, hb3⟩; have hown3 := own_below hown hb3; have hs3 := hb3.size) | (at_builtin; refine wpList_append_own _ rfl _ _ 37 rfl w.heap.size 59 i0 (.agg #[.int .i64 0, .string ⟨#[]⟩, .int .i64 0, .int .i64 0]) 4 40 Tryz.underlying37 hi hz0 hz1 hz2 rfl (by decide) _ _ _ rfl (hown3.alloc _ |>.alloc _) ⟨w3.heap.size + 1, 0, none⟩ 1 1 [.int .i64 kd, .string ⟨tx.toArray⟩, .int .i64 vl, .int .i64 k] rfl rfl (news_cells (cs := #[.int .i64 kd, .string ⟨tx.toArray⟩, .int .i64 vl, .int .i64 k]) rfl (by simp)) (by simp [Value.oneCell']) (by unfold maxLen; omega) (by omega) (by simp <;> omega) ?_; intro v' wa howna hgrow hnil; have hc2 := hgrow.cell (a := ⟨w3.heap.size, 1, none⟩) (v := .string ⟨tx.toArray⟩) (by simp) (fun e => by have := (hown.lt _ e.symm).2; simp at this; omega)) | (go_at_call 39; refine (skip_any _ _).mono ?_; rintro e w5 ⟨rfl, hb5⟩))
       have hsa := hgrow.size
       have hne5 := own_not_map hown II.out.table
       have hst := loop_step (x' := ⟨(Lex.skip false (List.take (x.size - tx.length) (List.drop tx.length x.data.toList))).toArray⟩) II.out HXT.out HG.out (by show Lex.skip false _ = _; rw [List.take_of_length_le (by rw [List.length_drop, ← Lib.size_eq]; omega), HXT.out]) (own_below howna hb5)
        (((((hbel.trans (hb3.mono (by omega))).alloc (by omega) _).alloc (by simp <;> omega) _).grown hgrow (by simp <;> omega) fun q hq => (hown.lt q hq).1).trans (hb5.mono (by simp at hsa; omega)))
        (((((II.out.table.keep hb3).alloc _).alloc _).grown hgrow hne5).keep hb5)
       go_roundw
       case rel => exact ⟨_, _, _, rfl, hst.2⟩
       case measure => exact hst.1
    ·rw [h0, if_neg (by decide)] at hlook
     unfold fnV at hlook
     cases hG : Lex.next (c :: r) with
     | bad er =>
       have hne : ((er : Int) != 0) = true := by
        rw [bne_iff_ne]
        have := Lex.next_bad hG
        omega
       have hN : ∀ w0, LexEnv w0 → Calls Tryz.prog 78 #[.string x] w0 fun e w' => e = .returned (.tuple #[.agg #[.int .i64 0, .string ⟨#[]⟩, .int .i64 0, .int .i64 0], .int .i64 er]) ∧ Below w0.heap.size w0 w' := by
        intro w0 hE0
        have h := hf w0 hE0
        rw [hG] at h
        exact h
       have HN := Lib.hid hN
       have HG := Lib.hid hG
       clear hN hG hf h0
       go_wp2_with (go_at_call 78; refine (HN.out _ (HE.out.keep hbel)).mono ?_; rintro e w3 ⟨rfl, hb3⟩)
       go_ret3
       refine .inl ⟨k, er, bad_at II.out HXT.out HG.out, rfl, ?_⟩
       exact (hbel.trans (hb3.mono (by omega))).alloc (by have := hb3.size; omega) _
     | tok kd tx vl =>
       have hN : ∀ w0, LexEnv w0 → Calls Tryz.prog 78 #[.string x] w0 fun e w' => e = .returned (.tuple #[.agg #[.int .i64 kd, .string ⟨tx.toArray⟩, .int .i64 vl, .int .i64 0], .int .i64 0]) ∧ Below w0.heap.size w0 w' := by
        intro w0 hE0
        have h := hf w0 hE0
        rw [hG] at h
        exact h
       obtain ⟨htx, hp, hle⟩ := Lex.next_text hG
       rw [List.length_cons] at hle
       have hle3 : tx.length ≤ x.size := by have h1 := HXL.out; have h2 := HRL.out; omega
       have HN := Lib.hid hN
       have HG := Lib.hid hG
       clear hN hG hf h0 htx hle
       go_wp2_with (first | (go_at_call 78; refine (HN.out _ (HE.out.keep hbel)).mono ?_; rintro e w3 ⟨rfl, hb3⟩; have hown3 := own_below hown hb3; have hs3 := hb3.size) | (at_builtin; refine wpList_append_own _ rfl _ _ 37 rfl w.heap.size 59 i0 (.agg #[.int .i64 0, .string ⟨#[]⟩, .int .i64 0, .int .i64 0]) 4 40 Tryz.underlying37 hi hz0 hz1 hz2 rfl (by decide) _ _ _ rfl (hown3.alloc _ |>.alloc _) ⟨w3.heap.size + 1, 0, none⟩ 1 1 [.int .i64 kd, .string ⟨tx.toArray⟩, .int .i64 vl, .int .i64 k] rfl rfl (news_cells (cs := #[.int .i64 kd, .string ⟨tx.toArray⟩, .int .i64 vl, .int .i64 k]) rfl (by simp)) (by simp [Value.oneCell']) (by unfold maxLen; omega) (by omega) (by simp <;> omega) ?_; intro v' wa howna hgrow hnil; have hc2 := hgrow.cell (a := ⟨w3.heap.size, 1, none⟩) (v := .string ⟨tx.toArray⟩) (by simp) (fun e => by have := (hown.lt _ e.symm).2; simp at this; omega)) | (go_at_call 39; refine (skip_any _ _).mono ?_; rintro e w5 ⟨rfl, hb5⟩))
       have hsa := hgrow.size
       have hne5 := own_not_map hown II.out.table
       have hst := loop_step (x' := ⟨(Lex.skip false (List.take (x.size - tx.length) (List.drop tx.length x.data.toList))).toArray⟩) II.out HXT.out HG.out (by show Lex.skip false _ = _; rw [List.take_of_length_le (by rw [List.length_drop, ← Lib.size_eq]; omega), HXT.out]) (own_below howna hb5)
        (((((hbel.trans (hb3.mono (by omega))).alloc (by omega) _).alloc (by simp <;> omega) _).grown hgrow (by simp <;> omega) fun q hq => (hown.lt q hq).1).trans (hb5.mono (by simp at hsa; omega)))
        (((((II.out.table.keep hb3).alloc _).alloc _).grown hgrow hne5).keep hb5)
       go_roundw
       case rel => exact ⟨_, _, _, rfl, hst.2⟩
       case measure => exact hst.1
    ·rw [h0, if_neg (by decide)] at hlook
     unfold fnV at hlook
     cases hG : Lex.next (c :: r) with
     | bad er =>
       have hne : ((er : Int) != 0) = true := by
        rw [bne_iff_ne]
        have := Lex.next_bad hG
        omega
       have hN : ∀ w0, LexEnv w0 → Calls Tryz.prog 80 #[.string x] w0 fun e w' => e = .returned (.tuple #[.agg #[.int .i64 0, .string ⟨#[]⟩, .int .i64 0, .int .i64 0], .int .i64 er]) ∧ Below w0.heap.size w0 w' := by
        intro w0 hE0
        have h := hf w0 hE0
        rw [hG] at h
        exact h
       have HN := Lib.hid hN
       have HG := Lib.hid hG
       clear hN hG hf h0
       go_wp2_with (go_at_call 80; refine (HN.out _ (HE.out.keep hbel)).mono ?_; rintro e w3 ⟨rfl, hb3⟩)
       go_ret3
       refine .inl ⟨k, er, bad_at II.out HXT.out HG.out, rfl, ?_⟩
       exact (hbel.trans (hb3.mono (by omega))).alloc (by have := hb3.size; omega) _
     | tok kd tx vl =>
       have hN : ∀ w0, LexEnv w0 → Calls Tryz.prog 80 #[.string x] w0 fun e w' => e = .returned (.tuple #[.agg #[.int .i64 kd, .string ⟨tx.toArray⟩, .int .i64 vl, .int .i64 0], .int .i64 0]) ∧ Below w0.heap.size w0 w' := by
        intro w0 hE0
        have h := hf w0 hE0
        rw [hG] at h
        exact h
       obtain ⟨htx, hp, hle⟩ := Lex.next_text hG
       rw [List.length_cons] at hle
       have hle3 : tx.length ≤ x.size := by have h1 := HXL.out; have h2 := HRL.out; omega
       have HN := Lib.hid hN
       have HG := Lib.hid hG
       clear hN hG hf h0 htx hle
       go_wp2_with (first | (go_at_call 80; refine (HN.out _ (HE.out.keep hbel)).mono ?_; rintro e w3 ⟨rfl, hb3⟩; have hown3 := own_below hown hb3; have hs3 := hb3.size) | (at_builtin; refine wpList_append_own _ rfl _ _ 37 rfl w.heap.size 59 i0 (.agg #[.int .i64 0, .string ⟨#[]⟩, .int .i64 0, .int .i64 0]) 4 40 Tryz.underlying37 hi hz0 hz1 hz2 rfl (by decide) _ _ _ rfl (hown3.alloc _ |>.alloc _) ⟨w3.heap.size + 1, 0, none⟩ 1 1 [.int .i64 kd, .string ⟨tx.toArray⟩, .int .i64 vl, .int .i64 k] rfl rfl (news_cells (cs := #[.int .i64 kd, .string ⟨tx.toArray⟩, .int .i64 vl, .int .i64 k]) rfl (by simp)) (by simp [Value.oneCell']) (by unfold maxLen; omega) (by omega) (by simp <;> omega) ?_; intro v' wa howna hgrow hnil; have hc2 := hgrow.cell (a := ⟨w3.heap.size, 1, none⟩) (v := .string ⟨tx.toArray⟩) (by simp) (fun e => by have := (hown.lt _ e.symm).2; simp at this; omega)) | (go_at_call 39; refine (skip_any _ _).mono ?_; rintro e w5 ⟨rfl, hb5⟩))
       have hsa := hgrow.size
       have hne5 := own_not_map hown II.out.table
       have hst := loop_step (x' := ⟨(Lex.skip false (List.take (x.size - tx.length) (List.drop tx.length x.data.toList))).toArray⟩) II.out HXT.out HG.out (by show Lex.skip false _ = _; rw [List.take_of_length_le (by rw [List.length_drop, ← Lib.size_eq]; omega), HXT.out]) (own_below howna hb5)
        (((((hbel.trans (hb3.mono (by omega))).alloc (by omega) _).alloc (by simp <;> omega) _).grown hgrow (by simp <;> omega) fun q hq => (hown.lt q hq).1).trans (hb5.mono (by simp at hsa; omega)))
        (((((II.out.table.keep hb3).alloc _).alloc _).grown hgrow hne5).keep hb5)
       go_roundw
       case rel => exact ⟨_, _, _, rfl, hst.2⟩
       case measure => exact hst.1
theorem scan_any (s : ByteArray) (w : World) (hE : LexEnv w) (hs : s.size ≤ 9223372036854775800) : Calls Tryz.prog 16 #[.string s] w (ScanPost s w) := by
 by_cases h : s.size ≤ 16384
 ·exact scan_any_short s w hE h
 ·exact scan_any_long s w hs (by omega)
end Go.Proofs.YtdckddkalgnlpaaGreatDoor
namespace Go.Proofs.YtdckddkalgnlpaaGreatDoor
open Go.RowKit
theorem toksCells_get : ∀ (ts : List Lex.Tok) (j : Nat) (t : Lex.Tok), ts[j]? = some t → ∀ i, i < 4 → (toksCells ts)[j * 4 + i]? = (tokCells t)[i]?
 | [], j, t, h, _, _ => by simp at h
 | a :: ts, 0, t, h, i, hi => by
   simp only [List.getElem?_cons_zero, Option.some.injEq] at h
   subst h
   show (tokCells a ++ toksCells ts)[0 * 4 + i]? = _
   rw [Nat.zero_mul, Nat.zero_add, List.getElem?_append_left (by simp [tokCells]; omega)]
 | a :: ts, j + 1, t, h, i, hi => by
   simp only [List.getElem?_cons_succ] at h
   show (tokCells a ++ toksCells ts)[(j + 1) * 4 + i]? = _
   have hl : (tokCells a).length = 4 := rfl
   rw [List.getElem?_append_right (by omega), hl, show (j + 1) * 4 + i - 4 = j * 4 + i by omega]
   exact toksCells_get ts j t h i hi
theorem toks_of_own {w : World} {B : Nat} {v : Value} {ts : List Lex.Tok} (h : w.ownsRow B 59 4 v ts.length (toksCells ts)) (hne : ts ≠ []) :
 ∃ g cap, v = .slice (some ⟨g, 0, none⟩) ts.length cap ∧ ts.length ≤ cap ∧ ToksAt w g ts ∧ B ≤ g ∧ g < w.heap.size := by
 have hc := h
 rcases h.2 with ⟨_, h0⟩ | ⟨g, cap, cur, rfl, hb, hg, hn, _⟩
 ·exact absurd (List.eq_nil_of_length_eq_zero h0) hne
 ·refine ⟨g, cap, rfl, hn, ?_, hb, (Array.getElem?_eq_some_iff.1 hg).1⟩
  intro j t hj
  have hcell := fun i hi u (hu : (tokCells t)[i]? = some u) => hc.cells (g := g) rfl (j * 4 + i) u ((toksCells_get ts j t hj i hi).trans hu)
  have hadd : ∀ m, (⟨g, 0, none⟩ : Addr).add m = ⟨g, m, none⟩ := by intro m; unfold Addr.add; split <;> simp_all
  simp only [hadd] at hcell
  exact ⟨hcell 0 (by omega) _ rfl, hcell 1 (by omega) _ rfl, hcell 2 (by omega) _ rfl, hcell 3 (by omega) _ rfl⟩
theorem ToksAt.keep {w w' : World} {B b : Nat} {ts : List Lex.Tok} (h : ToksAt w b ts) (hb : Below B w w') (hlt : b < B) : ToksAt w' b ts := by
 intro j t hj
 obtain ⟨h0, h1, h2, h3⟩ := h j t hj
 exact ⟨by rw [hb.cell hlt]; exact h0, by rw [hb.cell hlt]; exact h1, by rw [hb.cell hlt]; exact h2, by rw [hb.cell hlt]; exact h3⟩
def texts (ts : List Lex.Tok) : List (List UInt8) := (ts.filter fun t => decide (t.kind ≠ 0)).map (·.text)
def fmtL (ts : List Lex.Tok) : List UInt8 := Lib.join (texts ts) [32]
theorem strInfo : (Tryz.prog.info? 9).map (fun i => (i.zero, i.size, i.bytes)) = some (some (.string ⟨#[]⟩), 1, 16) := by kernel_rfl
end Go.Proofs.YtdckddkalgnlpaaGreatDoor
namespace Go.Proofs.YtdckddkalgnlpaaGreatDoor
open Go.RowKit
theorem scan_bad (s : ByteArray) (a er : Nat) (w : World) (hE : LexEnv w) (hs : s.size ≤ 9223372036854775800) (h : Lex.scan s.data.toList = .bad a er) :
 Calls Tryz.prog 16 #[.string s] w fun e w' => e = .returned (.tuple #[.slice none 0 0, .int .i64 a, .int .i64 er]) ∧ Below w.heap.size w w' := by
 refine (scan_any s w hE hs).mono ?_
 rintro e w' (⟨a', er', hb, rfl, hbel⟩ | ⟨us, v, ht, _⟩)
 ·rw [h] at hb; cases hb; exact ⟨rfl, hbel⟩
 ·rw [h] at ht; cases ht
end Go.Proofs.YtdckddkalgnlpaaGreatDoor
namespace Go.Proofs.YtdckddkalgnlpaaGreatDoor
open Go.RowKit
theorem scanF_ne (n : Nat) : ∀ (f : Nat) (l : List UInt8) (ts : List Lex.Tok), Lex.scanF n f l = .toks ts → ts ≠ []
 | f, [], ts, h => by rw [Lex.scanF_nil] at h; cases h; simp
 | 0, _ :: _, ts, h => by cases h
 | f + 1, c :: r, ts, h => by
   cases hn : Lex.next (c :: r) with
   | bad e => rw [Lex.scanF_bad hn] at h; cases h
   | tok k t v =>
     have h2 := Lex.scanF_tok (n := n) (f := f) hn []
     rw [Lex.pre_nil, h] at h2
     cases hs : Lex.scanF n f (Lex.skip false ((c :: r).drop t.length)) with
     | bad a e => rw [hs] at h2; cases h2
     | toks l => rw [hs] at h2; cases h2; simp
end Go.Proofs.YtdckddkalgnlpaaGreatDoor
namespace Go.Proofs.YtdckddkalgnlpaaGreatDoor
theorem next_kind {l : List UInt8} {k : Nat} {t : List UInt8} {v : Nat} (h : Lex.next l = .tok k t v) : k ≠ 0 := by
 unfold Lex.next at h
 by_cases hl : Lex.letter (l.headD 0) = true
 ·rw [if_pos hl] at h
  unfold Lex.nameAt at h
  simp only at h
  split at h
  ·cases h
  ·split at h
   ·cases h; omega
   ·split at h <;> (cases h; omega)
 ·rw [if_neg hl] at h
  by_cases hl : Lex.digit (l.headD 0) = true
  ·rw [if_pos hl] at h
   unfold Lex.numberAt at h
   simp only at h
   split at h
   ·cases h
   ·split at h
    ·cases h
    ·split at h
     ·cases h
     ·cases h; omega
  ·rw [if_neg hl] at h
   unfold Lex.symbolAt at h
   split at h
   ·cases h; omega
   ·split at h
    ·cases h; omega
    ·cases h
end Go.Proofs.YtdckddkalgnlpaaGreatDoor
namespace Go.Proofs.YtdckddkalgnlpaaGreatDoor
theorem space_word {x : UInt8} (h : Lex.space x = true) : Lex.wordc x = false := by
 revert h; revert x; apply all_bytes; decide +kernel
theorem space_digit {x : UInt8} (h : Lex.space x = true) : Lex.digit x = false := by
 revert h; revert x; apply all_bytes; decide +kernel
theorem space_tail {x : UInt8} (h : Lex.space x = true) : Lex.tailc x = false := by
 revert h; revert x; apply all_bytes; decide +kernel
theorem space_sym {c x : UInt8} (h : Lex.space x = true) : Lex.symbols.contains [c, x] = false := by
 rw [Bool.eq_false_iff]
 intro hc
 rw [List.contains_iff_mem] at hc
 have hall : ∀ l ∈ Lex.symbols, ∀ y ∈ l, Lex.space y = false := by decide +kernel
 have := hall _ hc x (by simp)
 rw [h] at this
 cases this
theorem takeWhile_ext {p : UInt8 → Bool} {x : UInt8} (hx : p x = false) (m : List UInt8) : ∀ l : List UInt8, (l ++ x :: m).takeWhile p = l.takeWhile p
 | [] => by simp [hx]
 | a :: l => by
   rw [List.cons_append, List.takeWhile_cons, List.takeWhile_cons]
   by_cases h : p a = true
   ·rw [if_pos h, if_pos h, takeWhile_ext hx m l]
   ·rw [if_neg h, if_neg h]
theorem next_ext {x : UInt8} (hx : Lex.space x = true) (m : List UInt8) (c : UInt8) (r : List UInt8) : Lex.next (c :: r ++ x :: m) = Lex.next (c :: r) := by
 unfold Lex.next
 rw [List.cons_append, List.headD_cons, List.headD_cons, ← List.cons_append]
 by_cases h1 : Lex.letter c = true
 ·rw [if_pos h1, if_pos h1]
  unfold Lex.nameAt
  rw [takeWhile_ext (space_word hx)]
 ·rw [if_neg h1, if_neg h1]
  by_cases h2 : Lex.digit c = true
  ·rw [if_pos h2, if_pos h2]
   unfold Lex.numberAt
   rw [takeWhile_ext (space_digit hx)]
   have hle := Lex.takeWhile_le Lex.digit (c :: r)
   generalize List.takeWhile Lex.digit (c :: r) = T at hle ⊢
   have : ((c :: r ++ x :: m).drop T.length).head?.any Lex.tailc = ((c :: r).drop T.length).head?.any Lex.tailc := by
    rw [List.drop_append_of_le_length hle]
    cases (c :: r).drop T.length with
    | nil => simp [space_tail hx]
    | cons a b => rfl
   simp only [this]
  ·rw [if_neg h2, if_neg h2]
   unfold Lex.symbolAt
   cases r with
   | nil =>
     have h3 : (([c] : List UInt8) ++ x :: m).take 2 = [c, x] := rfl
     have h4 : (([c] : List UInt8) ++ x :: m).take 1 = [c] := rfl
     have h5 : ([c] : List UInt8).take 1 = [c] := rfl
     have h6 : ¬ (2 ≤ (([c] : List UInt8) ++ x :: m).length ∧ (false = true)) := fun h => by cases h.2
     have h7 : ¬ (2 ≤ ([c] : List UInt8).length ∧ Lex.symbols.contains (([c] : List UInt8).take 2) = true) := fun h => by simp at h
     rw [h3, space_sym hx, if_neg h6, if_neg h7, h4, h5]
   | cons b r =>
     have h3 : (c :: b :: r ++ x :: m).take 2 = (c :: b :: r).take 2 := rfl
     have h4 : (c :: b :: r ++ x :: m).take 1 = (c :: b :: r).take 1 := rfl
     rw [h3, h4]
     have h5 : 2 ≤ (c :: b :: r ++ x :: m).length := by simp
     have h6 : 2 ≤ (c :: b :: r).length := by simp
     simp only [h5, h6, true_and]
theorem takeWhile_cut {p : UInt8 → Bool} : ∀ (l : List UInt8) (j : Nat), (l.take ((l.takeWhile p).length + j)).takeWhile p = l.takeWhile p
 | [], j => by simp
 | a :: l, j => by
   by_cases h : p a = true
   ·rw [List.takeWhile_cons, if_pos h, List.length_cons, show (l.takeWhile p).length + 1 + j = ((l.takeWhile p).length + j) + 1 by omega, List.take_succ_cons, List.takeWhile_cons, if_pos h, takeWhile_cut l j]
   ·rw [List.takeWhile_cons, if_neg h, List.length_nil]
    cases j with
    | zero => rfl
    | succ j => rw [Nat.zero_add, List.take_succ_cons, List.takeWhile_cons, if_neg h]
theorem next_cut {c : UInt8} {r : List UInt8} {k : Nat} {t : List UInt8} {v : Nat} (j : Nat) (h : Lex.next (c :: r) = .tok k t v) : Lex.next ((c :: r).take (t.length + j)) = .tok k t v := by
 obtain ⟨_, hp, _⟩ := Lex.next_text h
 have hd : ((c :: r).take (t.length + j)).headD 0 = c := by
  rw [show t.length + j = (t.length - 1 + j) + 1 by omega, List.take_succ_cons, List.headD_cons]
 unfold Lex.next at h ⊢
 rw [hd]
 rw [List.headD_cons] at h
 by_cases h1 : Lex.letter c = true
 ·rw [if_pos h1] at h ⊢
  unfold Lex.nameAt at h ⊢
  have ht : t = (c :: r).takeWhile Lex.wordc := by
   generalize (c :: r).takeWhile Lex.wordc = T at h
   simp only at h
   split at h
   ·cases h
   ·split at h
    ·cases h; rfl
    ·split at h <;> (cases h; rfl)
  have hc := takeWhile_cut (p := Lex.wordc) (c :: r) j
  rw [← ht] at hc h
  rw [hc]
  exact h
 ·rw [if_neg h1] at h ⊢
  by_cases h2 : Lex.digit c = true
  ·rw [if_pos h2] at h ⊢
   unfold Lex.numberAt at h ⊢
   have ht : t = (c :: r).takeWhile Lex.digit := by
    generalize (c :: r).takeWhile Lex.digit = T at h
    simp only at h
    split at h
    ·cases h
    ·split at h
     ·cases h
     ·split at h
      ·cases h
      ·cases h; rfl
   have hc := takeWhile_cut (p := Lex.digit) (c :: r) j
   rw [← ht] at hc h
   rw [hc]
   simp only at h ⊢
   by_cases h3 : ((c :: r).drop t.length).head?.any Lex.tailc = true
   ·rw [if_pos h3] at h; cases h
   ·rw [if_neg h3] at h
    have h4 : ¬ (((c :: r).take (t.length + j)).drop t.length).head?.any Lex.tailc = true := by
     rw [List.drop_take, Nat.add_sub_cancel_left]
     intro h5
     apply h3
     revert h5
     cases (c :: r).drop t.length with
     | nil => simp
     | cons a b => cases j <;> simp
    rw [if_neg h4]
    exact h
  ·rw [if_neg h2] at h ⊢
   unfold Lex.symbolAt at h ⊢
   by_cases h3 : 2 ≤ (c :: r).length ∧ Lex.symbols.contains ((c :: r).take 2) = true
   ·rw [if_pos h3] at h
    have ht : t.length = 2 := by cases h; rw [List.length_take]; omega
    have h4 : ((c :: r).take (t.length + j)).take 2 = (c :: r).take 2 := by rw [List.take_take]; congr 1; omega
    have h5 : 2 ≤ ((c :: r).take (t.length + j)).length := by rw [List.length_take]; omega
    rw [h4, if_pos ⟨h5, h3.2⟩]
    exact h
   ·rw [if_neg h3] at h
    have h4 : ((c :: r).take (t.length + j)).take 1 = (c :: r).take 1 := by rw [List.take_take]; congr 1; omega
    have h5 : ¬ (2 ≤ ((c :: r).take (t.length + j)).length ∧ Lex.symbols.contains (((c :: r).take (t.length + j)).take 2) = true) := by
     intro ⟨h6, h7⟩
     apply h3
     rw [List.length_take] at h6
     rw [List.take_take, show min 2 (t.length + j) = 2 by omega] at h7
     exact ⟨by omega, h7⟩
    rw [if_neg h5, h4]
    exact h
end Go.Proofs.YtdckddkalgnlpaaGreatDoor
namespace Go.Proofs.YtdckddkalgnlpaaGreatDoor
def dig (k : Nat) : UInt8 := UInt8.ofNat (48 + k % 10)
def dec (n : Nat) : List UInt8 := if _h : n < 10 then [dig n] else dec (n / 10) ++ [dig n]
termination_by n
decreasing_by omega
end Go.Proofs.YtdckddkalgnlpaaGreatDoor
namespace Go.Proofs.YtdckddkalgnlpaaGreatDoor
namespace Sy
open Tr
abbrev Bytes := List UInt8
def opLevel (o : Int) : Nat := if o = 12 then 1 else if o = 11 then 2 else if o = 0 ∨ o = 1 then 5 else if o = 2 ∨ o = 3 ∨ o = 4 then 6 else 4
def sym (o : Int) : Bytes :=
 if o = 0 then [43] else if o = 1 then [45] else if o = 2 then [42] else if o = 3 then [47] else if o = 4 then [37]
 else if o = 5 then [61, 61] else if o = 6 then [33, 61] else if o = 7 then [60] else if o = 8 then [60, 61] else if o = 9 then [62] else if o = 10 then [62, 61]
 else if o = 11 then [97, 110, 100] else [111, 114]
def levelK (k o : Int) (a : Bool) : Nat :=
 if k = 10 then opLevel o else if k = 9 then 3 else if k = 8 ∨ k = 6 ∨ k = 7 then 7 else if k = 5 then (if a then 7 else 9) else if k = 4 then 8 else 9
def level : E → Nat
 | .mk k o _ _ a _ => levelK k o a
def par (req : Nat) (x : Nat × Bytes) : Bytes := if x.1 < req then [40] ++ x.2 ++ [41] else x.2
def commas : List Bytes → Bytes
 | [] => []
 | [x] => x
 | x :: y :: r => x ++ [44, 32] ++ commas (y :: r)
def node (k o i : Int) (nm : Bytes) (a : Bool) (ts : List (Nat × Bytes)) : Bytes :=
 if k = 0 then dec i.toNat
 else if k = 1 then [110, 105, 108]
 else if k = 2 then [116, 104, 105, 115]
 else if k = 3 then nm
 else if k = 4 then par 8 (ts.headD (9, [])) ++ [46] ++ nm
 else if k = 5 then
  if a then [110, 101, 119, 32] ++ nm ++ [40] ++ commas (ts.dropLast.map Prod.snd) ++ [41, 32, 97, 116, 32] ++ par 7 (ts.getLastD (9, []))
  else [110, 101, 119, 32] ++ nm ++ [40] ++ commas (ts.map Prod.snd) ++ [41]
 else if k = 6 then [119, 101, 97, 107, 32] ++ par 7 (ts.headD (9, []))
 else if k = 7 then [103, 101, 116, 32] ++ par 7 (ts.headD (9, []))
 else if k = 8 then [45] ++ par 7 (ts.headD (9, []))
 else if k = 9 then [110, 111, 116, 32] ++ par 3 (ts.headD (9, []))
 else par (if opLevel o = 4 then 5 else opLevel o) (ts.headD (9, [])) ++ [32] ++ sym o ++ [32] ++ par (opLevel o + 1) ((ts.drop 1).headD (9, []))
mutual
def text : E → Bytes
 | .mk k o i nm a l => node k o i nm.data.toList a (texts l)
def texts : List E → List (Nat × Bytes)
 | [] => []
 | e :: r => (level e, text e) :: texts r
end
def ind (d : Nat) : Bytes := List.replicate (2 * d) 32
def line (d : Nat) (s : Bytes) : Bytes := ind d ++ s ++ [10]
def simple (k : Int) (nm : Bytes) (ts : List (Nat × Bytes)) : Bytes :=
 if k = 0 then [108, 101, 116, 32] ++ nm ++ [32, 61, 32] ++ (ts.headD (9, [])).2
 else if k = 1 then nm ++ [32, 61, 32] ++ (ts.headD (9, [])).2
 else if k = 2 then par 9 (ts.headD (9, [])) ++ [46] ++ nm ++ [32, 61, 32] ++ ((ts.drop 1).headD (9, [])).2
 else if k = 5 then [115, 101, 110, 100, 32] ++ par 8 (ts.headD (9, [])) ++ [46] ++ nm ++ [40] ++ commas ((ts.drop 1).map Prod.snd) ++ [41]
 else if k = 6 then [112, 114, 105, 110, 116, 32] ++ (ts.headD (9, [])).2
 else if k = 7 then [109, 111, 118, 101, 32] ++ (ts.headD (9, [])).2 ++ [32, 116, 111, 32] ++ ((ts.drop 1).headD (9, [])).2
 else if k = 8 then [119, 97, 116, 99, 104, 32] ++ (ts.headD (9, [])).2 ++ [32, 98, 121, 32] ++ nm ++ [40] ++ ((ts.drop 1).headD (9, [])).2 ++ [41]
 else [114, 101, 116, 117, 114, 110]
def stmtT (d : Nat) (k : Int) (nm : Bytes) (ts : List (Nat × Bytes)) (body els : Bytes) (other : Bool) : Bytes :=
 if k = 3 then line d ([105, 102, 32] ++ (ts.headD (9, [])).2 ++ [32, 123]) ++ body ++ (if other then line d [125, 32, 101, 108, 115, 101, 32, 123] ++ els else []) ++ line d [125]
 else if k = 4 then line d ([119, 104, 105, 108, 101, 32] ++ (ts.headD (9, [])).2 ++ [32, 123]) ++ body ++ line d [125]
 else line d (simple k nm ts ++ [59])
mutual
def stmt : Nat → S → Bytes
 | d, .mk k nm x b l => stmtT d k nm.data.toList (texts x) (stmts (d + 1) b) (stmts (d + 1) l) (decide (0 < l.length))
def stmts : Nat → List S → Bytes
 | _, [] => []
 | d, s :: r => stmt d s ++ stmts d r
end
mutual
def sizeE : E → Nat
 | .mk _ _ _ _ _ l => 1 + sizeEs l
def sizeEs : List E → Nat
 | [] => 0
 | e :: r => sizeE e + sizeEs r
end
mutual
def sizeS : S → Nat
 | .mk _ _ x b l => 1 + sizeEs x + sizeSs b + sizeSs l
def sizeSs : List S → Nat
 | [] => 0
 | s :: r => sizeS s + sizeSs r
end
def sizeM (m : M) : Nat := 1 + m.params.length + sizeSs m.body
def sizeC (c : C) : Nat := 1 + c.fields.length + (c.methods.map sizeM).sum
def sizeP (l : List C) : Nat := (l.map sizeC).sum
mutual
def sameE : E → E → Bool
 | .mk k o i nm a l, .mk k' o' i' nm' a' l' => decide (k = k') && decide (o = o') && decide (i = i') && decide (nm = nm') && decide (a = a') && sameEs l l'
def sameEs : List E → List E → Bool
 | [], [] => true
 | e :: r, e' :: r' => sameE e e' && sameEs r r'
 | [], _ :: _ => false
 | _ :: _, [] => false
end
mutual
def sameS : S → S → Bool
 | .mk k nm x b l, .mk k' nm' x' b' l' => decide (k = k') && decide (nm = nm') && sameEs x x' && sameSs b b' && sameSs l l'
def sameSs : List S → List S → Bool
 | [], [] => true
 | e :: r, e' :: r' => sameS e e' && sameSs r r'
 | [], _ :: _ => false
 | _ :: _, [] => false
end
mutual
theorem sameE_iff : ∀ a b : E, sameE a b = true ↔ a = b
 | .mk k o i nm a l, .mk k' o' i' nm' a' l' => by
   rw [sameE]
   simp only [Bool.and_eq_true, decide_eq_true_eq, sameEs_iff l l', E.mk.injEq, and_assoc]
theorem sameEs_iff : ∀ a b : List E, sameEs a b = true ↔ a = b
 | [], [] => by simp [sameEs]
 | e :: r, e' :: r' => by rw [sameEs, Bool.and_eq_true, sameE_iff e e', sameEs_iff r r', List.cons.injEq]
 | [], _ :: _ => by simp [sameEs]
 | _ :: _, [] => by simp [sameEs]
end
mutual
theorem sameS_iff : ∀ a b : S, sameS a b = true ↔ a = b
 | .mk k nm x b l, .mk k' nm' x' b' l' => by
   rw [sameS]
   simp only [Bool.and_eq_true, decide_eq_true_eq, sameEs_iff, sameSs_iff b b', sameSs_iff l l', S.mk.injEq, and_assoc]
theorem sameSs_iff : ∀ a b : List S, sameSs a b = true ↔ a = b
 | [], [] => by simp [sameSs]
 | e :: r, e' :: r' => by rw [sameSs, Bool.and_eq_true, sameS_iff e e', sameSs_iff r r', List.cons.injEq]
 | [], _ :: _ => by simp [sameSs]
 | _ :: _, [] => by simp [sameSs]
end
def sameM (m n : M) : Bool := decide (m.name = n.name) && decide (m.params = n.params) && sameSs m.body n.body
theorem sameM_iff (m n : M) : sameM m n = true ↔ m = n := by
 cases m; cases n
 simp only [sameM, Bool.and_eq_true, decide_eq_true_eq, sameSs_iff, M.mk.injEq, and_assoc]
def sameMs : List M → List M → Bool
 | [], [] => true
 | e :: r, e' :: r' => sameM e e' && sameMs r r'
 | [], _ :: _ => false
 | _ :: _, [] => false
theorem sameMs_iff : ∀ a b : List M, sameMs a b = true ↔ a = b
 | [], [] => by simp [sameMs]
 | e :: r, e' :: r' => by rw [sameMs, Bool.and_eq_true, sameM_iff e e', sameMs_iff r r', List.cons.injEq]
 | [], _ :: _ => by simp [sameMs]
 | _ :: _, [] => by simp [sameMs]
def sameC (c d : C) : Bool := decide (c.name = d.name) && decide (c.actor = d.actor) && decide (c.fields = d.fields) && sameMs c.methods d.methods
theorem sameC_iff (c d : C) : sameC c d = true ↔ c = d := by
 cases c; cases d
 simp only [sameC, Bool.and_eq_true, decide_eq_true_eq, sameMs_iff, C.mk.injEq, and_assoc]
def sameCs : List C → List C → Bool
 | [], [] => true
 | e :: r, e' :: r' => sameC e e' && sameCs r r'
 | [], _ :: _ => false
 | _ :: _, [] => false
theorem sameCs_iff : ∀ a b : List C, sameCs a b = true ↔ a = b
 | [], [] => by simp [sameCs]
 | e :: r, e' :: r' => by rw [sameCs, Bool.and_eq_true, sameC_iff e e', sameCs_iff r r', List.cons.injEq]
 | [], _ :: _ => by simp [sameCs]
 | _ :: _, [] => by simp [sameCs]
end Sy
end Go.Proofs.YtdckddkalgnlpaaGreatDoor
