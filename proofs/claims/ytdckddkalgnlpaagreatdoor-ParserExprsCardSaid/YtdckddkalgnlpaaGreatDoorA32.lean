/-
  Several texts in one: PaCount, PbScanB, PbOff.
-/
import Derived.Test.YtdckddkalgnlpaaGreatDoorA8
import Derived.Test.YtdckddkalgnlpaaGreatDoorA14
import Derived.Test.YtdckddkalgnlpaaGreatDoorA29
import Derived.Test.YtdckddkalgnlpaaGreatDoorA26
import Derived.Test.YtdckddkalgnlpaaGreatDoorA5
namespace Go.Proofs.YtdckddkalgnlpaaGreatDoor
open Go.RowKit Go.Maps Pw
set_option maxRecDepth 100000 in
set_option maxHeartbeats 4000000 in
theorem count_any : ∀ (d : Nat) (e : Tr.E) (p : Option Addr) (N c : Nat) (w : World), e.deep ≤ d → e.args.length = N → SlE w (.slice p N c) e.args → Sy.sizeE e ≤ 1000000000 →
 Calls Tryz.prog 34 #[exprV e (.slice p N c)] w fun r w' => r = .returned (.int .i64 (Sy.sizeE e : Nat)) ∧ Below w.heap.size w w' := by
 intro d
 induction d with
 | zero => intro e p N c w hd; have := e.deep_pos; omega
 | succ d ih =>
   intro e p N c w hd hN hS hz
   have hn6 : N ≤ 9223372036854775807 := by
    have := hS.len
    rw [hN] at this
    unfold maxLen at this
    exact this
   obtain ⟨ls, hls⟩ : ∃ q, e.args = q := ⟨_, rfl⟩
   have hsum : Sy.sizeE e = 1 + (ls.map Sy.sizeE).sum := by rw [Sy.sizeE_args, ← hls, ← Sy.sizeEs_sumE]; rfl
   have hde := E_deep_eq e
   rw [hls] at hN hS hde
   have hB := below_box w (.cells #[.int .i64 e.kind, .int .i64 e.op, .int .i64 e.int, .string e.name, .bool e.at_, .slice p N c] 33)
   have hcv := (MapKept.heap_alloc w (.cells #[.int .i64 e.kind, .int .i64 e.op, .int .i64 e.int, .string e.name, .bool e.at_, .slice p N c] 33)).1
   obtain ⟨w1, hw1⟩ : ∃ q, q = w.alloc (.cells #[.int .i64 e.kind, .int .i64 e.op, .int .i64 e.int, .string e.name, .bool e.at_, .slice p N c] 33) := ⟨_, rfl⟩
   obtain ⟨BX, hBX⟩ : ∃ q, w.heap.size = q := ⟨_, rfl⟩
   rw [← hw1] at hB hcv
   rw [hBX] at hcv
   have e5 := cell_of_blkP hcv (j := 5) (u := .slice p N c) rfl
   have HS := Lib.hid (hS.keep hB)
   have HN := Lib.hid hN
   have HD := Lib.hid hd
   have HDE := Lib.hid hde
   have HIH := Lib.hid ih
   have HZ := Lib.hid hz
   have HSUM := Lib.hid hsum
   have HB1 := Lib.hid hB
   have HW1 := Lib.hid hw1
   have HC := Lib.hid e5
   have HBXE := Lib.hid hBX
   unfold exprV
   clear ih hS hN hd hz hsum hls hB hcv hde e5
   go_enter Tryz.func34, Tryz.ntmps34
   go_upto_region 1 with fail
   rw [← HW1.out]
   try rw [hBX]
   clear HW1 hw1 hBX
   have c5 := HC.out
   go_wp2_with fail
   clear c5
   have c5a := HC.out
   go_loopg [3, 5, 9] N (fun g s3 s5 s9 wr => ∃ (j M : Nat), s9 = .int .i64 j ∧ j ≤ N ∧ g = N - j ∧ s3 = .int .i64 M ∧ M = 1 + ((ls.take j).map Sy.sizeE).sum ∧ Hid (Below w1.heap.size w1 wr))
   case atStart => exact ⟨0, 1, rfl, Nat.zero_le _, rfl, rfl, rfl, Below.refl _ _⟩
   case round =>
    obtain ⟨j, M, rfl, hj, rfl, rfl, hM, HB⟩ := hrel
    by_cases hlt : j < N
    ·obtain ⟨x, hx⟩ : ∃ x, ls[j]? = some x := ⟨_, List.getElem?_eq_getElem (by rw [HN.out]; exact hlt)⟩
     obtain ⟨b', o', aa, rfl, _, hc, hbd, hsl⟩ := HS.out.get hx
     obtain ⟨pa, ca, rfl, _⟩ := hsl.form
     obtain ⟨AN, hAN⟩ : ∃ q, x.args.length = q := ⟨_, rfl⟩
     rw [hAN] at hsl hc
     obtain ⟨y0, y1, y2, y3, y4, y5⟩ := hc.keep HB.out
     have htk := sum_take Sy.sizeE hx
     have hle := sum_le Sy.sizeE ls (j + 1)
     rw [htk] at hle
     obtain ⟨Z, hZ⟩ : ∃ q, Sy.sizeE x = q := ⟨_, rfl⟩
     rw [hZ] at htk hle
     have hbx := HB.out.alloc HB.out.size (.cells #[.int .i64 x.kind, .int .i64 x.op, .int .i64 x.int, .string x.name, .bool x.at_, .slice pa AN ca] 33)
     obtain ⟨w4, hw4⟩ : ∃ q, q = wr.alloc (.cells #[.int .i64 x.kind, .int .i64 x.op, .int .i64 x.int, .string x.name, .bool x.at_, .slice pa AN ca] 33) := ⟨_, rfl⟩
     rw [← hw4] at hbx
     have hzz := HSUM.out
     have hzl := HZ.out
     have hdx := Tr.E.deeps_get ls j x hx
     have hcall := HIH.out x pa AN ca w4 (by have := HD.out; have := HDE.out; omega) hAN (hsl.keep hbx) (by rw [hZ]; omega)
     rw [hZ] at hcall
     unfold exprV at hcall
     have HCALL := Lib.hid hcall
     have HBX := Lib.hid hbx
     have HW4 := Lib.hid hw4
     have HTK := Lib.hid htk
     have b3 : (j : Int) < (N : Int) := by omega
     have bw : IntKind.i64.wrap ((M : Int) + (Z : Int)) = (M : Int) + (Z : Int) := IntWalk.i64_in _ (by omega)
     have HM := Lib.hid hM
     have hl0 := cell_lt' y0
     clear hx hc hbd hsl hAN htk hle hbx hw4 hzz hzl hdx hcall hZ hM c5a
     go_wp2_with fail
     rw [← HW4.out]
     refine HCALL.out.mono ?_
     rintro e' w5 ⟨rfl, hb5⟩
     have HB5 := Lib.hid (HBX.out.trans (hb5.mono HBX.out.size))
     clear hb5 y0 y1 y2 y3 y4 y5 hl0 HW4
     go_wp2_with fail
     go_roundg (N - (j + 1))
     case measure => omega
     case rel => exact ⟨j + 1, M + Z, by go_num, by omega, rfl, by go_num, by have h1 := HTK.out; have h2 := HM.out; omega, HB5⟩
    ·obtain rfl : j = N := by omega
     have hfull : ls.take j = ls := List.take_of_length_le (by rw [HN.out]; exact Nat.le_refl _)
     rw [hfull, ← HSUM.out] at hM
     subst hM
     clear hfull
     go_wp2_with fail
     go_ret
     exact ⟨rfl, below_next HB1.out HB.out⟩
end Go.Proofs.YtdckddkalgnlpaaGreatDoor
namespace Go.Proofs.YtdckddkalgnlpaaGreatDoor
open Pw
theorem all_takeWhile (p : UInt8 → Bool) : ∀ l : List UInt8, (l.takeWhile p).all p = true
 | [] => rfl
 | c :: r => by
   rw [List.takeWhile_cons]
   cases h : p c with
   | true => rw [if_pos rfl, List.all_cons, h, all_takeWhile p r]; rfl
   | false => rfl
theorem nameAt_good {c : UInt8} {r : List UInt8} {k : Nat} {t : List UInt8} {v : Nat} (hl : Lex.letter c = true) (h : Lex.nameAt (c :: r) = .tok k t v) : k = 4 ∨ (k = 3 ∧ Tr.clsL t = true) ∨ (k = 2 ∧ Tr.varL t = true) := by
 have hw : Lex.wordc c = true := by unfold Lex.wordc; rw [hl]; simp
 have ht : (c :: r).takeWhile Lex.wordc = c :: r.takeWhile Lex.wordc := by rw [List.takeWhile_cons, hw]; rfl
 have hall := all_takeWhile Lex.wordc (c :: r)
 unfold Lex.nameAt at h
 simp only at h
 rw [ht] at h hall
 have hl2 : 97 ≤ c.toNat ∧ c.toNat ≤ 122 ∨ 65 ≤ c.toNat ∧ c.toNat ≤ 90 := by unfold Lex.letter at hl; exact of_decide_eq_true hl
 split at h
 ·cases h
 ·rename_i h31
  split at h
  ·cases h
   exact .inl rfl
  ·rename_i hkw
   have hkw2 : Lex.keywords.contains (c :: r.takeWhile Lex.wordc) = false := by
    cases hb : Lex.keywords.contains (c :: r.takeWhile Lex.wordc) with
    | true => exact absurd hb hkw
    | false => rfl
   split at h
   ·rename_i h90
    cases h
    have h90' : c.toNat ≤ 90 := h90
    refine .inr (.inl ⟨rfl, ?_⟩)
    unfold Tr.clsL Tr.nameL
    rw [hkw2, hall, decide_eq_true ⟨by simp, by omega, by show 65 ≤ c.toNat; omega, h90'⟩]
    rfl
   ·rename_i h90
    cases h
    have h90' : ¬ c.toNat ≤ 90 := h90
    refine .inr (.inr ⟨rfl, ?_⟩)
    unfold Tr.varL Tr.nameL
    rw [hkw2, hall, decide_eq_true ⟨by simp, by omega, by show 97 ≤ c.toNat; omega, by show c.toNat ≤ 122; omega⟩]
    rfl
theorem next_goodT {c : UInt8} {r : List UInt8} {k : Nat} {t : List UInt8} {v : Nat} (h : Lex.next (c :: r) = .tok k t v) : Pa.GoodT ⟨k, t, v⟩ := by
 have hg := next_good h
 by_cases hl : Lex.letter c = true
 ·have h2 : Lex.nameAt (c :: r) = .tok k t v := by
   unfold Lex.next at h
   rw [if_pos (show Lex.letter ((c :: r).headD 0) = true from hl)] at h
   exact h
  have e3 : ∀ p : List UInt8 → Bool, p t = true → p (⟨t.toArray⟩ : ByteArray).data.toList = true := fun p hp => hp
  rcases nameAt_good hl h2 with rfl | ⟨rfl, hc⟩ | ⟨rfl, hc⟩
  ·exact ⟨fun _ => hg.2.2.1, fun e => absurd (show (4 : Nat) = 2 from e) (by decide), fun e => absurd (show (4 : Nat) = 3 from e) (by decide)⟩
  ·exact ⟨fun _ => hg.2.2.1, fun e => absurd (show (3 : Nat) = 2 from e) (by decide), fun _ => e3 Tr.clsL hc⟩
  ·exact ⟨fun _ => hg.2.2.1, fun _ => e3 Tr.varL hc, fun e => absurd (show (2 : Nat) = 3 from e) (by decide)⟩
 ·have hk : k = 1 ∨ k = 5 := by
   unfold Lex.next at h
   rw [if_neg (show ¬ Lex.letter ((c :: r).headD 0) = true from hl)] at h
   split at h
   ·unfold Lex.numberAt at h
    simp only at h
    split at h
    ·cases h
    ·split at h
     ·cases h
     ·split at h
      ·cases h
      ·cases h
       exact .inl rfl
   ·unfold Lex.symbolAt at h
    split at h
    ·cases h
     exact .inr rfl
    ·split at h
     ·cases h
      exact .inr rfl
     ·cases h
  exact ⟨fun _ => hg.2.2.1, fun e => by have e' : k = 2 := e; omega, fun e => by have e' : k = 3 := e; omega⟩
theorem scanF_goodT (n : Nat) : ∀ (f : Nat) (l : List UInt8) (ts : List Lex.Tok), Lex.scanF n f l = .toks ts → ∀ t ∈ ts, Pa.GoodT (Pa.tb t)
 | f, [], ts, h => by
   rw [Lex.scanF_nil] at h
   cases h
   intro t ht
   rw [List.mem_singleton.1 ht]
   exact ⟨fun e => absurd (show (0 : Nat) = 1 from e) (by decide), fun e => absurd (show (0 : Nat) = 2 from e) (by decide), fun e => absurd (show (0 : Nat) = 3 from e) (by decide)⟩
 | 0, _ :: _, ts, h => by cases h
 | f + 1, c :: r, ts, h => by
   cases hn : Lex.next (c :: r) with
   | bad e => rw [Lex.scanF_bad hn] at h; cases h
   | tok k t v =>
     have h2 := Lex.scanF_tok (n := n) (f := f) hn []
     rw [Lex.pre_nil, h] at h2
     cases hs : Lex.scanF n f (Lex.skip false ((c :: r).drop t.length)) with
     | bad a e => rw [hs] at h2; cases h2
     | toks l =>
       have i2 := scanF_goodT n f _ l hs
       rw [hs] at h2
       cases h2
       rw [List.nil_append, List.singleton_append]
       intro u hu
       rcases List.mem_cons.1 hu with rfl | hu
       ·exact next_goodT hn
       ·exact i2 u hu
theorem scan_goodT {s : List UInt8} {ts : List Lex.Tok} (h : Lex.scan s = .toks ts) (n k : Nat) : Pa.Good (Pa.rest ts n k) := by
 have h' : ∀ t ∈ ts, Pa.GoodT (Pa.tb t) := by
  unfold Lex.scan at h
  split at h
  ·cases h
  ·exact scanF_goodT _ _ _ _ h
 intro x hx
 unfold Pa.rest at hx
 obtain ⟨t, ht, rfl⟩ := List.mem_map.1 hx
 exact h' t (List.mem_of_mem_take (List.mem_of_mem_drop ht))
theorem read_prog {s : List UInt8} {ts : List Lex.Tok} (h : Lex.scan s = .toks ts) {cs : List Tr.C} {r : Pa.Toks} (he : Pa.Ev (fun f => Pa.pP f [] (Pa.rest ts (ts.length - 1) 0)) (.ok cs r)) : Tr.validP cs = true ∧ Sy.sizeP cs ≤ 16384 := by
 obtain ⟨F, hF⟩ := he
 have h1 := (Pa.val_prog F [] 0 ⟨rfl, Nat.le_refl _⟩ _ (scan_goodT h (ts.length - 1) 0)).2 cs r (hF F (Nat.le_refl _))
 have hl := Pa.rest_len (scan_tkl h).1 0
 have h5 := (scan_tkl h).2.2.2
 exact ⟨h1.1, by have := h1.2; omega⟩
theorem read_expr {s : List UInt8} {ts : List Lex.Tok} (h : Lex.scan s = .toks ts) {e : Tr.E} {r : Pa.Toks} (he : Pa.Ev (fun f => Pa.pE f 0 (Pa.rest ts (ts.length - 1) 0)) (.ok e r)) : Tr.validE e = true ∧ Sy.sizeE e ≤ 16384 := by
 obtain ⟨F, hF⟩ := he
 have h1 := ((Pa.val_all F).pE 0 _ (scan_goodT h (ts.length - 1) 0)).2 e r (hF F (Nat.le_refl _))
 have hl := Pa.rest_len (scan_tkl h).1 0
 have h5 := (scan_tkl h).2.2.2
 exact ⟨h1.1, by have := h1.2; omega⟩
end Go.Proofs.YtdckddkalgnlpaaGreatDoor
namespace Go.Proofs.YtdckddkalgnlpaaGreatDoor
open Pw
theorem scanF_badpos (n : Nat) : ∀ (f : Nat) (l : List UInt8) (a e : Nat), l.length ≤ f → Lex.scanF n f l = .bad a e → 0 < e
 | f, [], a, e, _, h => by rw [Lex.scanF_nil] at h; cases h
 | 0, c :: r, a, e, hl, h => by simp at hl
 | f + 1, c :: r, a, e, hl, h => by
   cases hn : Lex.next (c :: r) with
   | bad e2 => rw [Lex.scanF_bad hn] at h; cases h; exact Lex.next_bad hn
   | tok k t v =>
     have h2 := Lex.scanF_tok (n := n) (f := f) hn []
     rw [Lex.pre_nil, h] at h2
     have hp := (Lex.next_text hn).2.1
     have hle := Lex.skip_le false ((c :: r).drop t.length)
     rw [List.length_drop] at hle
     cases hs : Lex.scanF n f (Lex.skip false ((c :: r).drop t.length)) with
     | toks l2 => rw [hs] at h2; cases h2
     | bad a2 e2 =>
       rw [hs] at h2
       cases h2
       exact scanF_badpos n f _ _ _ (by rw [List.length_cons] at hl hle; omega) hs
theorem scan_badpos {l : List UInt8} {a e : Nat} (h : Lex.scan l = .bad a e) : 0 < e := by
 unfold Lex.scan at h
 split at h
 ·cases h; omega
 ·exact scanF_badpos _ _ _ _ _ (Lex.skip_le false l) h
theorem scan_lenT {s : List UInt8} {ts : List Lex.Tok} (h : Lex.scan s = .toks ts) : ts.length ≤ s.length + 1 := by
 unfold Lex.scan at h
 split at h
 ·cases h
 ·exact (scanF_good s.length s.length _ ts (Lex.skip_le false s) h).1
theorem read_prog_len {s : List UInt8} {ts : List Lex.Tok} (h : Lex.scan s = .toks ts) {cs : List Tr.C} {r : Pa.Toks} (he : Pa.Ev (fun f => Pa.pP f [] (Pa.rest ts (ts.length - 1) 0)) (.ok cs r)) : Sy.sizeP cs ≤ s.length := by
 obtain ⟨F, hF⟩ := he
 have h1 := (Pa.val_prog F [] 0 ⟨rfl, Nat.le_refl _⟩ _ (scan_goodT h (ts.length - 1) 0)).2 cs r (hF F (Nat.le_refl _))
 have hl := Pa.rest_len (scan_tkl h).1 0
 have h5 := scan_lenT h
 have := h1.2
 omega
end Go.Proofs.YtdckddkalgnlpaaGreatDoor
