/-
  Several texts in one: PaLx, PbSpace, PaLxS, PbValid, PbFew, TrFew2.
-/
import Derived.Test.YtdckddkalgnlpaaGreatDoorV7
import Derived.Test.YtdckddkalgnlpaaGreatDoorV30
import Derived.Test.YtdckddkalgnlpaaGreatDoorV29
import Derived.Test.YtdckddkalgnlpaaGreatDoorV3
import Derived.Test.YtdckddkalgnlpaaGreatDoorV8
import Derived.Test.YtdckddkalgnlpaaGreatDoorV1
import Derived.Test.YtdckddkalgnlpaaGreatDoorV5
namespace Go.Proofs.YtdckddkalgnlpaaGreatDoor
namespace Pa
open Tr
inductive Lx : Bytes → List B → Prop
 | nil {s : Bytes} (h : Lex.skip false s = []) : Lx s []
 | tok {s : Bytes} {c : UInt8} {r : Bytes} {k : Nat} {t : Bytes} {v : Nat} {ts : List B} (h : Lex.skip false s = c :: r) (hn : Lex.next (c :: r) = .tok k t v) (ht : Lx ((c :: r).drop t.length) ts) : Lx s (⟨k, t, v⟩ :: ts)
theorem Lx.skip {s s' : Bytes} {ts : List B} (e : Lex.skip false s' = Lex.skip false s) (h : Lx s ts) : Lx s' ts := by
 cases h with
 | nil h => exact .nil (e.trans h)
 | tok h hn ht => exact .tok (e.trans h) hn ht
theorem lx_sp {s : Bytes} {ts : List B} (h : Lx s ts) : Lx (32 :: s) ts := Lx.skip (s := s) (show Lex.skip false (32 :: s) = Lex.skip false s from rfl) h
theorem lx_lf {s : Bytes} {ts : List B} (h : Lx s ts) : Lx (10 :: s) ts := Lx.skip (s := s) (show Lex.skip false (10 :: s) = Lex.skip false s from rfl) h
def Sep (s : Bytes) : Prop := ∀ c r, s = c :: r → Lex.wordc c = false ∧ c ≠ 61
theorem sep_nil : Sep [] := fun _ _ h => by cases h
theorem sep_cons {c : UInt8} (s : Bytes) (h : Lex.wordc c = false) (h2 : c ≠ 61) : Sep (c :: s) := fun x r e => by
 injection e with e1 e2
 subst e1
 exact ⟨h, h2⟩
theorem takeWhile_sep {p : UInt8 → Bool} : ∀ (w s : Bytes), (∀ c ∈ w, p c = true) → (∀ c r, s = c :: r → p c = false) → (w ++ s).takeWhile p = w
 | [], [], _, _ => rfl
 | [], c :: r, _, h => by rw [List.nil_append, List.takeWhile_cons, h c r rfl]; rfl
 | c :: w, s, h1, h2 => by rw [List.cons_append, List.takeWhile_cons, h1 c (by simp), if_pos rfl, takeWhile_sep w s (fun x hx => h1 x (by simp [hx])) h2]
theorem letter_skip {c : UInt8} (r : Bytes) (h : Lex.wordc c = true) : Lex.skip false (c :: r) = c :: r := by
 have h2 := wordc_cases h
 have e1 : Lex.space c = false := by
  unfold Lex.space
  rw [decide_eq_false_iff_not]
  omega
 rw [Lex.skip, e1, if_neg (by decide), if_neg (by omega)]
theorem Lx.tok' {c : UInt8} {r : Bytes} {k : Nat} {t : Bytes} {v : Nat} {ts : List B} {s : Bytes} (hk : Lex.skip false (c :: r) = c :: r) (hn : Lex.next (c :: r) = .tok k t v) (e : c :: r = t ++ s) (h : Lx s ts) : Lx (t ++ s) (⟨k, t, v⟩ :: ts) := by
 rw [e] at hk hn
 have hk2 : Lex.skip false (t ++ s) = c :: r := hk.trans e.symm
 refine .tok hk2 (by rw [e]; exact hn) ?_
 rw [e, List.drop_left]
 exact h
theorem lx_word {w s : Bytes} {ts : List B} (hw : ∀ c ∈ w, Lex.wordc c = true) (hl : Lex.letter (w.headD 0) = true) (hn : w.length ≤ 31) (hs : Sep s) (h : Lx s ts) : Lx (w ++ s) (⟨if Lex.keywords.contains w then 4 else if (w.headD 0).toNat ≤ 90 then 3 else 2, w, 0⟩ :: ts) := by
 cases w with
 | nil => exact absurd hl (by decide)
 | cons c r =>
   have htw : (c :: r ++ s).takeWhile Lex.wordc = c :: r := takeWhile_sep (c :: r) s hw fun x q e => (hs x q e).1
   refine Lx.tok' (c := c) (r := r ++ s) (letter_skip _ (hw c (by simp))) ?_ rfl h
   unfold Lex.next
   rw [List.headD_cons, show Lex.letter c = true from hl, if_pos rfl]
   unfold Lex.nameAt
   rw [show (c :: (r ++ s)).takeWhile Lex.wordc = c :: r from htw]
   simp only []
   rw [if_neg (by omega)]
   by_cases hk : Lex.keywords.contains (c :: r) = true
   ·rw [if_pos hk, if_pos hk]
   ·rw [if_neg hk, if_neg hk]
    by_cases h9 : ((c :: r).headD 0).toNat ≤ 90
    ·rw [if_pos h9, if_pos h9]
    ·rw [if_neg h9, if_neg h9]
theorem lx_kw {w s : Bytes} {ts : List B} (hw : w ∈ Lex.keywords) (hs : Sep s) (h : Lx s ts) : Lx (w ++ s) (kw w :: ts) := by
 have key : (∀ c ∈ w, Lex.wordc c = true) ∧ Lex.letter (w.headD 0) = true ∧ w.length ≤ 31 ∧ Lex.keywords.contains w = true := by
  have hall : Lex.keywords.all (fun w => w.all Lex.wordc && Lex.letter (w.headD 0) && decide (w.length ≤ 31) && Lex.keywords.contains w) = true := by decide +kernel
  have := List.all_eq_true.1 hall w hw
  rw [Bool.and_eq_true, Bool.and_eq_true, Bool.and_eq_true, List.all_eq_true, decide_eq_true_eq] at this
  exact ⟨this.1.1.1, this.1.1.2, this.1.2, this.2⟩
 have h2 := lx_word key.1 key.2.1 key.2.2.1 hs h
 rw [if_pos key.2.2.2] at h2
 exact h2
theorem name_parts {lo hi : Nat} {l : Bytes} (h : nameL lo hi l = true) : l.length ≤ 31 ∧ lo ≤ (l.headD 0).toNat ∧ (l.headD 0).toNat ≤ hi ∧ Lex.keywords.contains l = false ∧ ∀ c ∈ l, Lex.wordc c = true := by
 unfold nameL at h
 rw [Bool.and_eq_true, Bool.and_eq_true, decide_eq_true_eq, Bool.not_eq_true'] at h
 exact ⟨h.1.1.2.1, h.1.1.2.2.1, h.1.1.2.2.2, h.1.2, List.all_eq_true.1 h.2⟩
theorem lx_var {nm : ByteArray} {s : Bytes} {ts : List B} (hw : varB nm = true) (hs : Sep s) (h : Lx s ts) : Lx (nm.data.toList ++ s) (nmT nm.data.toList :: ts) := by
 obtain ⟨h1, h2, h3, h4, h5⟩ := name_parts (show nameL 97 122 nm.data.toList = true from hw)
 have := lx_word h5 (by unfold Lex.letter; rw [decide_eq_true_eq]; omega) h1 hs h
 rw [h4, if_neg (by decide), if_neg (by omega)] at this
 exact this
theorem lx_cls {nm : ByteArray} {s : Bytes} {ts : List B} (hw : clsB nm = true) (hs : Sep s) (h : Lx s ts) : Lx (nm.data.toList ++ s) (clT nm.data.toList :: ts) := by
 obtain ⟨h1, h2, h3, h4, h5⟩ := name_parts (show nameL 65 90 nm.data.toList = true from hw)
 have := lx_word h5 (by unfold Lex.letter; rw [decide_eq_true_eq]; omega) h1 hs h
 rw [h4, if_neg (by decide), if_pos (by omega)] at this
 exact this
theorem digit_word {c : UInt8} (h : Lex.digit c = true) : Lex.wordc c = true := by unfold Lex.wordc; rw [h]; simp
theorem lx_num {n : Nat} {s : Bytes} {ts : List B} (hn : n ≤ 2305843009213693951) (hs : Sep s) (h : Lx s ts) : Lx (dec n ++ s) (⟨1, dec n, n⟩ :: ts) := by
 have hd := dec_all n
 have htw : (dec n ++ s).takeWhile Lex.digit = dec n := takeWhile_sep _ s hd fun x q e => by
  have := (hs x q e).1
  cases hdg : Lex.digit x with
  | false => rfl
  | true => rw [digit_word hdg] at this; cases this
 cases hdn : dec n with
 | nil => exact absurd hdn (dec_ne n)
 | cons c r =>
   rw [hdn] at htw hd
   have hc := hd c (by simp)
   refine Lx.tok' (c := c) (r := r ++ s) (letter_skip _ (digit_word hc)) ?_ rfl h
   unfold Lex.next
   have hle : Lex.letter c = false := by
    unfold Lex.digit at hc
    rw [decide_eq_true_eq] at hc
    unfold Lex.letter
    rw [decide_eq_false_iff_not]
    omega
   rw [List.headD_cons, hle, if_neg (by decide), hc, if_pos rfl]
   unfold Lex.numberAt
   rw [show (c :: (r ++ s)).takeWhile Lex.digit = c :: r from htw]
   simp only []
   have hdr : (c :: (r ++ s)).drop (c :: r).length = s := List.drop_left (l₁ := c :: r) (l₂ := s)
   rw [hdr, if_neg, if_neg, if_neg]
   ·rw [← hdn, dec_value]
   ·rw [← hdn, dec_value]; omega
   ·rintro ⟨a, b⟩
    rcases Nat.eq_zero_or_pos n with rfl | hp
    ·rw [← hdn] at a
     have : (dec 0).length = 1 := by rw [dec_small (by omega)]; rfl
     omega
    ·have := dec_head n hp
     rw [hdn, List.headD_cons] at this
     rw [List.headD_cons] at b
     rw [b] at this
     exact this (by decide)
   ·cases s with
    | nil => simp
    | cons x q =>
      have h1 := (hs x q rfl).1
      have : Lex.tailc x = false := by
       unfold Lex.tailc
       unfold Lex.wordc at h1
       rw [Bool.or_eq_false_iff, Bool.or_eq_false_iff] at h1
       rw [h1.1.1, h1.2]
       rfl
      simp [this]
theorem sym_skip {c : UInt8} (r : Bytes) (h : Lex.space c = false) (h2 : c.toNat ≠ 35) : Lex.skip false (c :: r) = c :: r := by
 rw [Lex.skip, h, if_neg (by decide), if_neg h2]
theorem lx_sym1 {c : UInt8} {s : Bytes} {ts : List B} (hc : Lex.symbols.contains [c] = true) (he : c ∈ ([61, 60, 62] : Bytes) → ∀ r, s ≠ 61 :: r) (h : Lx s ts) : Lx (c :: s) (sy [c] :: ts) := by
 have hall : Lex.symbols.all (fun t => match t with | [c] => !Lex.letter c && !Lex.digit c && !Lex.space c && decide (c.toNat ≠ 35) | _ => true) = true := by decide +kernel
 have hm : [c] ∈ Lex.symbols := by rw [List.contains_iff_mem] at hc; exact hc
 have h1 := List.all_eq_true.1 hall [c] hm
 simp only [Bool.and_eq_true, Bool.not_eq_true', decide_eq_true_eq] at h1
 obtain ⟨⟨⟨a1, a2⟩, a3⟩, a4⟩ := h1
 refine Lx.tok' (t := [c]) (c := c) (r := s) (sym_skip _ a3 a4) ?_ rfl h
 unfold Lex.next
 rw [List.headD_cons, a1, if_neg (by decide), a2, if_neg (by decide)]
 unfold Lex.symbolAt
 rw [if_neg, if_pos]
 ·rfl
 ·exact hc
 ·rintro ⟨hl, h2⟩
  cases s with
  | nil => simp at hl
  | cons d r =>
    have h3 : Lex.symbols.contains [c, d] = true := h2
    rw [List.contains_iff_mem] at h3
    have h4 : Lex.symbols.all (fun t => match t with | [c, d] => decide (d = 61) && (decide (c = 33) || decide (c = 60) || decide (c = 61) || decide (c = 62)) | _ => true) = true := by decide +kernel
    have h5 := List.all_eq_true.1 h4 [c, d] h3
    simp only [Bool.and_eq_true, Bool.or_eq_true, decide_eq_true_eq] at h5
    obtain ⟨rfl, h6⟩ := h5
    have h7 : c ≠ 33 := by rintro rfl; revert hc; decide
    exact he (by simp; rcases h6 with ((h6 | h6) | h6) | h6 <;> simp_all) r rfl
theorem lx_sym2 {c d : UInt8} {s : Bytes} {ts : List B} (hc : Lex.symbols.contains [c, d] = true) (h : Lx s ts) : Lx (c :: d :: s) (sy [c, d] :: ts) := by
 have hall : Lex.symbols.all (fun t => match t with | [c, _] => !Lex.letter c && !Lex.digit c && !Lex.space c && decide (c.toNat ≠ 35) | _ => true) = true := by decide +kernel
 have hm : [c, d] ∈ Lex.symbols := by rw [List.contains_iff_mem] at hc; exact hc
 have h1 := List.all_eq_true.1 hall [c, d] hm
 simp only [Bool.and_eq_true, Bool.not_eq_true', decide_eq_true_eq] at h1
 obtain ⟨⟨⟨a1, a2⟩, a3⟩, a4⟩ := h1
 refine Lx.tok' (t := [c, d]) (c := c) (r := d :: s) (sym_skip _ a3 a4) ?_ rfl h
 unfold Lex.next
 rw [List.headD_cons, a1, if_neg (by decide), a2, if_neg (by decide)]
 unfold Lex.symbolAt
 rw [if_pos ⟨by simp, hc⟩]
 rfl
theorem lx_one {c : UInt8} {s : Bytes} {ts : List B} (hc : Lex.symbols.contains [c] = true) (he : c ∉ ([61, 60, 62] : Bytes)) (h : Lx s ts) : Lx (c :: s) (sy [c] :: ts) := lx_sym1 hc (fun h => absurd h he) h
theorem ne_61 {s : Bytes} (h : Sep s) : ∀ r, s ≠ 61 :: r := fun r e => (h 61 r e).2 rfl
theorem sep_sp (s : Bytes) : Sep (32 :: s) := sep_cons s (by decide) (by decide)
theorem lx_op {o : Int} (h0 : 0 ≤ o) (h1 : o ≤ 12) {s : Bytes} {ts : List B} (h : Lx s ts) : Lx (Sy.sym o ++ 32 :: s) (opT o :: ts) := by
 have h2 := lx_sp h
 have hs := sep_sp s
 have hc : o = 0 ∨ o = 1 ∨ o = 2 ∨ o = 3 ∨ o = 4 ∨ o = 5 ∨ o = 6 ∨ o = 7 ∨ o = 8 ∨ o = 9 ∨ o = 10 ∨ o = 11 ∨ o = 12 := by omega
 rcases hc with rfl | rfl | rfl | rfl | rfl | rfl | rfl | rfl | rfl | rfl | rfl | rfl | rfl
 ·exact lx_sym1 (c := 43) (by decide) (fun _ => ne_61 hs) h2
 ·exact lx_sym1 (c := 45) (by decide) (fun _ => ne_61 hs) h2
 ·exact lx_sym1 (c := 42) (by decide) (fun _ => ne_61 hs) h2
 ·exact lx_sym1 (c := 47) (by decide) (fun _ => ne_61 hs) h2
 ·exact lx_sym1 (c := 37) (by decide) (fun _ => ne_61 hs) h2
 ·exact lx_sym2 (c := 61) (d := 61) (by decide) h2
 ·exact lx_sym2 (c := 33) (d := 61) (by decide) h2
 ·exact lx_sym1 (c := 60) (by decide) (fun _ => ne_61 hs) h2
 ·exact lx_sym2 (c := 60) (d := 61) (by decide) h2
 ·exact lx_sym1 (c := 62) (by decide) (fun _ => ne_61 hs) h2
 ·exact lx_sym2 (c := 62) (d := 61) (by decide) h2
 ·exact lx_kw (w := [97, 110, 100]) (by decide) hs h2
 ·exact lx_kw (w := [111, 114]) (by decide) hs h2
def LxE (e : E) : Prop := ∀ s ts, Sep s → Lx s ts → Lx (Sy.text e ++ s) (toks e ++ ts)
def argX (req : Nat) (e : E) : Bytes := Sy.par req (Sy.level e, Sy.text e)
theorem lx_arg {e : E} (h : LxE e) (req : Nat) {s : Bytes} {ts : List B} (hs : Sep s) (hl : Lx s ts) : Lx (argX req e ++ s) (argT req e ++ ts) := by
 unfold argX argT Sy.par parT
 by_cases hr : Sy.level e < req
 ·rw [if_pos hr, if_pos hr]
  show Lx ([40] ++ Sy.text e ++ [41] ++ s) (sy [40] :: (toks e ++ [sy [41]]) ++ ts)
  have h2 := lx_one (c := 40) (by decide) (by decide) (h _ _ (sep_cons s (show Lex.wordc 41 = false by decide) (by decide)) (lx_one (c := 41) (by decide) (by decide) hl))
  simpa using h2
 ·rw [if_neg hr, if_neg hr]
  exact h s ts hs hl
theorem lx_commas : ∀ (l : List E), (∀ e ∈ l, LxE e) → ∀ s ts, Sep s → Lx s ts → Lx (Sy.commas (l.map Sy.text) ++ s) (commasT (l.map toks) ++ ts)
 | [], _, s, ts, _, hl => hl
 | [e], h, s, ts, hs, hl => h e (by simp) s ts hs hl
 | e :: x :: r, h, s, ts, hs, hl => by
   have ih := lx_commas (x :: r) (fun y hy => h y (by simp at hy ⊢; exact .inr hy)) s ts hs hl
   show Lx ((Sy.text e ++ [44, 32] ++ Sy.commas (Sy.text x :: r.map Sy.text)) ++ s) ((toks e ++ sy [44] :: commasT (toks x :: r.map toks)) ++ ts)
   rw [List.append_assoc, List.append_assoc, List.append_assoc, List.cons_append]
   exact h e (by simp) _ _ (sep_cons _ (by decide) (by decide)) (lx_one (by decide) (by decide) (lx_sp ih))
theorem text_num (n : Nat) : Sy.text (num n) = dec n := by rw [num, Sy.text]; rfl
theorem text_fld (nm : ByteArray) (x : E) : Sy.text (fld nm x) = argX 8 x ++ [46] ++ nm.data.toList := by rw [fld, Sy.text, Sy.texts, Sy.texts]; rfl
theorem text_new (nm : ByteArray) (l : List E) : Sy.text (new nm false l) = [110, 101, 119, 32] ++ nm.data.toList ++ [40] ++ Sy.commas (l.map Sy.text) ++ [41] := by
 rw [new, Sy.text, Sy.texts_map]
 show [110, 101, 119, 32] ++ nm.data.toList ++ [40] ++ Sy.commas ((l.map fun e => (Sy.level e, Sy.text e)).map Prod.snd) ++ [41] = _
 rw [List.map_map]
 rfl
theorem text_newAt (nm : ByteArray) (l : List E) (y : E) : Sy.text (new nm true (l ++ [y])) = [110, 101, 119, 32] ++ nm.data.toList ++ [40] ++ Sy.commas (l.map Sy.text) ++ [41, 32, 97, 116, 32] ++ argX 7 y := by
 rw [new, Sy.text, Sy.texts_map]
 show [110, 101, 119, 32] ++ nm.data.toList ++ [40] ++ Sy.commas (((l ++ [y]).map fun e => (Sy.level e, Sy.text e)).dropLast.map Prod.snd) ++ [41, 32, 97, 116, 32] ++ Sy.par 7 (((l ++ [y]).map fun e => (Sy.level e, Sy.text e)).getLastD (9, [])) = _
 rw [List.map_append, List.map_cons, List.map_nil, List.dropLast_concat, List.getLastD_concat, List.map_map]
 rfl
theorem text_bin (o : Int) (x y : E) : Sy.text (bin o x y) = argX (if Sy.opLevel o = 4 then 5 else Sy.opLevel o) x ++ [32] ++ Sy.sym o ++ [32] ++ argX (Sy.opLevel o + 1) y := by rw [bin, Sy.text, Sy.texts, Sy.texts, Sy.texts]; rfl
theorem text_un6 (x : E) : Sy.text (un 6 x) = [119, 101, 97, 107] ++ 32 :: argX 7 x := by rw [un, Sy.text, Sy.texts, Sy.texts]; rfl
theorem text_un7 (x : E) : Sy.text (un 7 x) = [103, 101, 116] ++ 32 :: argX 7 x := by rw [un, Sy.text, Sy.texts, Sy.texts]; rfl
theorem text_un8 (x : E) : Sy.text (un 8 x) = 45 :: argX 7 x := by rw [un, Sy.text, Sy.texts, Sy.texts]; rfl
theorem text_un9 (x : E) : Sy.text (un 9 x) = [110, 111, 116] ++ 32 :: argX 3 x := by rw [un, Sy.text, Sy.texts, Sy.texts]; rfl
theorem lx_all : ∀ (n : Nat) (e : E), Sy.sizeE e ≤ n → validE e = true → LxE e
 | 0, e, h, _ => by have : 0 < Sy.sizeE e := by (cases e; rw [Sy.sizeE]; omega)
                    omega
 | n + 1, e, h, hv => by
   have ih : ∀ x, Sy.sizeE x < Sy.sizeE e → validE x = true → LxE x := fun x hx hvx => lx_all n x (by omega) hvx
   intro s ts hs hl
   cases form_of e hv with
   | num m hm => rw [text_num, toks_num]; exact lx_num hm hs hl
   | nil => rw [toks_leaf1, show Sy.text (leaf 1) = [110, 105, 108] by rw [leaf, Sy.text]; rfl]; exact lx_kw (by decide) hs hl
   | this => rw [toks_leaf2, show Sy.text (leaf 2) = [116, 104, 105, 115] by rw [leaf, Sy.text]; rfl]; exact lx_kw (by decide) hs hl
   | var nm hn => rw [toks_var, show Sy.text (var nm) = nm.data.toList by rw [var, Sy.text]; rfl]; exact lx_var hn hs hl
   | fld nm x hn hx =>
     rw [text_fld, toks_fld, List.append_assoc, List.append_assoc, List.append_assoc]
     exact lx_arg (ih x (size_args (by simp)) hx) 8 (sep_cons _ (by decide) (by decide)) (lx_one (by decide) (by decide) (lx_var hn hs hl))
   | new nm l hn hx =>
     rw [text_new, toks_new]
     have h1 := lx_commas l (fun x hm => ih x (size_args hm) (hx x hm)) _ _ (sep_cons s (show Lex.wordc 41 = false by decide) (by decide)) (lx_one (c := 41) (by decide) (by decide) hl)
     have h2 := lx_kw (w := [110, 101, 119]) (by decide) (sep_sp _) (lx_sp (lx_cls hn (sep_cons _ (show Lex.wordc 40 = false by decide) (by decide)) (lx_one (c := 40) (by decide) (by decide) h1)))
     simpa using h2
   | newAt nm l y hn hx hy =>
     rw [text_newAt, toks_newAt]
     have h0 := lx_kw (w := [97, 116]) (by decide) (sep_sp _) (lx_sp (lx_arg (ih y (size_args (by simp)) hy) 7 hs hl))
     have h1 := lx_commas l (fun x hm => ih x (size_args (by simp [hm])) (hx x hm)) _ _ (sep_cons _ (show Lex.wordc 41 = false by decide) (by decide)) (lx_one (c := 41) (by decide) (by decide) (lx_sp h0))
     have h2 := lx_kw (w := [110, 101, 119]) (by decide) (sep_sp _) (lx_sp (lx_cls hn (sep_cons _ (show Lex.wordc 40 = false by decide) (by decide)) (lx_one (c := 40) (by decide) (by decide) h1)))
     simpa using h2
   | un k x hk hx =>
     have hx2 := ih x (size_args (by simp)) hx
     rcases hk with rfl | rfl | rfl | rfl
     ·rw [text_un6, toks_un6, List.append_assoc]
      exact lx_kw (by decide) (sep_sp _) (lx_sp (lx_arg hx2 7 hs hl))
     ·rw [text_un7, toks_un7, List.append_assoc]
      exact lx_kw (by decide) (sep_sp _) (lx_sp (lx_arg hx2 7 hs hl))
     ·rw [text_un8, toks_un8]
      exact lx_one (by decide) (by decide) (lx_arg hx2 7 hs hl)
     ·rw [text_un9, toks_un9, List.append_assoc]
      exact lx_kw (by decide) (sep_sp _) (lx_sp (lx_arg hx2 3 hs hl))
   | bin o x y h0 h1 hx hy =>
     have hx2 := ih x (size_args (by simp)) hx
     have hy2 := ih y (size_args (by simp)) hy
     rw [text_bin, toks_bin]
     have h2 := lx_arg hx2 (if Sy.opLevel o = 4 then 5 else Sy.opLevel o) (sep_sp _) (lx_sp (lx_op h0 h1 (lx_arg hy2 (Sy.opLevel o + 1) hs hl)))
     simpa using h2
theorem lx_expr (e : E) (hv : validE e = true) : LxE e := lx_all _ e (Nat.le_refl _) hv
end Pa
end Go.Proofs.YtdckddkalgnlpaaGreatDoor
namespace Go.Proofs.YtdckddkalgnlpaaGreatDoor
theorem skip_solid : ∀ (b : Bool) (l : List UInt8) {c : UInt8} {r : List UInt8}, Lex.skip b l = c :: r → Lex.space c = false ∧ c.toNat ≠ 35
 | true, [], _, _, h => by cases h
 | false, [], _, _, h => by cases h
 | true, x :: l, c, r, h => by
   rw [skip_t] at h
   split at h
   ·exact skip_solid false l h
   ·exact skip_solid true l h
 | false, x :: l, c, r, h => by
   rw [skip_f] at h
   split at h
   ·exact skip_solid false l h
   ·split at h
    ·exact skip_solid true l h
    ·rename_i h1 h2
     cases h
     exact ⟨by simpa using h1, h2⟩
namespace Pa
def W (t : Lex.Tok) : Prop := ∃ c r, t.text = c :: r ∧ Lex.space c = false ∧ c.toNat ≠ 35 ∧ Lex.next t.text = .tok t.kind t.text t.val
theorem W.lx {t : Lex.Tok} (h : W t) {s : Bytes} (hs : s = [] ∨ ∃ m, s = 32 :: m) {bs : List B} (hl : Lx s bs) : Lx (t.text ++ s) (tb t :: bs) := by
 obtain ⟨c, r, e, h1, h2, h3⟩ := h
 have hn : Lex.next (c :: (r ++ s)) = .tok t.kind t.text t.val := by
  rcases hs with rfl | ⟨m, rfl⟩
  ·rw [List.append_nil, ← e]; exact h3
  ·exact (next_ext (by decide) m c r).trans (by rw [← e]; exact h3)
 exact Lx.tok' (t := t.text) (sym_skip _ h1 h2) hn (by rw [e]; rfl) hl
theorem join_cons2 (x y : List UInt8) (l : List (List UInt8)) : Lib.join (x :: y :: l) [32] = x ++ 32 :: Lib.join (y :: l) [32] := by
 unfold Lib.join
 simp [List.intercalate, List.intersperse]
theorem lx_join : ∀ ts : List Lex.Tok, (∀ t ∈ ts, W t) → Lx (Lib.join (ts.map (·.text)) [32]) (ts.map tb)
 | [], _ => .nil rfl
 | [t], h => by
   have h1 := (h t (List.mem_singleton.2 rfl)).lx (.inl rfl) (.nil rfl)
   rw [List.append_nil] at h1
   show Lx (Lib.join [t.text] [32]) [tb t]
   rw [Lib.join_one]
   exact h1
 | t :: u :: r, h => by
   show Lx (Lib.join (t.text :: u.text :: r.map (·.text)) [32]) _
   rw [join_cons2]
   exact (h t (List.mem_cons_self ..)).lx (.inr ⟨_, rfl⟩) (lx_sp (lx_join (u :: r) (fun x hx => h x (List.mem_cons_of_mem _ hx))))
theorem Lx.scan {s : Bytes} {bs : List B} (h : Lx s bs) : ∀ (n f : Nat), (Lex.skip false s).length ≤ f → ∃ ts, Lex.scanF n f (Lex.skip false s) = .toks ts ∧ ts.length = bs.length + 1 ∧ (ts.take bs.length).map tb = bs := by
 induction h with
 | nil h => exact fun n f _ => ⟨[⟨0, [], 0, n⟩], by rw [h, Lex.scanF_nil], rfl, rfl⟩
 | @tok s c r k t v bs h hn _ ih =>
   intro n f hf
   rw [h] at hf ⊢
   cases f with
   | zero => simp at hf
   | succ f =>
     obtain ⟨_, hpos, _⟩ := Lex.next_text hn
     obtain ⟨ts, h1, h2, h3⟩ := ih n f (by
      refine Nat.le_trans (Lex.skip_le ..) ?_
      rw [List.length_drop]
      simp only [List.length_cons] at hf ⊢
      omega)
     have h4 := Lex.scanF_tok (n := n) (f := f) hn []
     rw [Lex.pre_nil, h1] at h4
     refine ⟨⟨k, t, v, n - (c :: r).length⟩ :: ts, h4, ?_, ?_⟩
     ·rw [List.length_cons, h2]
      rfl
     ·rw [List.length_cons, List.take_succ_cons, List.map_cons, h3]
      rfl
theorem scanF_words (n : Nat) : ∀ (f : Nat) (l : Bytes) (ts : List Lex.Tok), Lex.scanF n f (Lex.skip false l) = .toks ts → (∀ t ∈ ts, t.kind = 0 ∨ W t) ∧ ((texts ts).map fun x => x.length + 1).sum ≤ 2 * l.length := by
 intro f
 induction f with
 | zero =>
   intro l ts h
   cases hs : Lex.skip false l with
   | nil => rw [hs, Lex.scanF_nil] at h; cases h; exact ⟨fun t ht => by rw [List.mem_singleton.1 ht]; exact .inl rfl, Nat.zero_le _⟩
   | cons c r => rw [hs] at h; cases h
 | succ f ih =>
   intro l ts h
   cases hs : Lex.skip false l with
   | nil => rw [hs, Lex.scanF_nil] at h; cases h; exact ⟨fun t ht => by rw [List.mem_singleton.1 ht]; exact .inl rfl, Nat.zero_le _⟩
   | cons c r =>
     rw [hs] at h
     cases hn : Lex.next (c :: r) with
     | bad e => rw [Lex.scanF_bad hn] at h; cases h
     | tok k t v =>
       have h4 := Lex.scanF_tok (n := n) (f := f) hn []
       rw [Lex.pre_nil, h] at h4
       have hl := Lex.skip_le false l
       rw [hs] at hl
       cases h5 : Lex.scanF n f (Lex.skip false ((c :: r).drop t.length)) with
       | bad a e => rw [h5] at h4; cases h4
       | toks us =>
         rw [h5] at h4
         injection h4 with h4
         have h4 : ts = ⟨k, t, v, n - (c :: r).length⟩ :: us := h4
         obtain ⟨i1, i2⟩ := ih _ us h5
         obtain ⟨h6, hpos, hle⟩ := Lex.next_text hn
         have hcut := next_cut 0 hn
         have htk : (c :: r).take t.length = t := h6.symm
         rw [Nat.add_zero, htk] at hcut
         rw [List.length_drop] at i2
         refine ⟨fun x hx => ?_, ?_⟩
         ·rw [h4] at hx
          rcases List.mem_cons.1 hx with rfl | hx
          ·right
           obtain ⟨s1, s2⟩ := skip_solid false l hs
           have : t = c :: t.tail := by
            rw [← htk]
            cases hq : t.length with
            | zero => omega
            | succ q => rw [List.take_succ_cons]; rfl
           exact ⟨c, t.tail, this, s1, s2, hcut⟩
          ·exact i1 x hx
         ·rw [h4]
          have hk := next_kind hn
          have e : texts (⟨k, t, v, n - (c :: r).length⟩ :: us) = t :: texts us := by
           unfold texts
           rw [List.filter_cons, if_pos (by simpa using hk)]
           rfl
          rw [e, List.map_cons, List.sum_cons]
          omega
theorem join_len : ∀ l : List (List UInt8), (Lib.join l [32]).length ≤ (l.map fun x => x.length + 1).sum
 | [] => Nat.zero_le _
 | [x] => by rw [Lib.join_one]; simp
 | x :: y :: l => by
   rw [join_cons2, List.length_append, List.length_cons, List.map_cons, List.sum_cons]
   have := join_len (y :: l)
   omega
theorem spaces {s : Bytes} {ts : List Lex.Tok} (h : Lex.scan s = .toks ts) (hl : s.length ≤ 400) : (fmtL ts).length ≤ 800 ∧ ∃ ts', Lex.scan (fmtL ts) = .toks ts' ∧ rest ts' (ts'.length - 1) 0 = rest ts (ts.length - 1) 0 := by
 have hs : Lex.scanF s.length s.length (Lex.skip false s) = .toks ts := by
  unfold Lex.scan at h
  rw [if_neg (by omega)] at h
  exact h
 obtain ⟨h1, h2⟩ := scanF_words _ _ _ _ hs
 have h3 : (fmtL ts).length ≤ 800 := Nat.le_trans (join_len _) (by omega)
 obtain ⟨hT, _, h0, _⟩ := scan_tkl h
 have hlast := scan_last h
 have e1 : ts.filter (fun t => decide (t.kind ≠ 0)) = ts.take (ts.length - 1) := by
  have hd : ts.dropLast = ts.take (ts.length - 1) := List.dropLast_eq_take
  rw [← hd]
  conv => lhs; rw [hlast]
  rw [List.filter_append, List.filter_eq_self.2 (fun t ht => ?_)]
  ·simp
  ·rw [hd] at ht
   obtain ⟨j, hj⟩ := List.mem_iff_getElem?.1 ht
   have hlt : j < ts.length - 1 := by
    have := (List.getElem?_eq_some_iff.1 hj).1
    rw [List.length_take] at this
    omega
   rw [List.getElem?_take, if_pos hlt] at hj
   exact decide_eq_true (hT.kind j t hlt hj)
 have hL : Lx (fmtL ts) (rest ts (ts.length - 1) 0) := by
  have hj := lx_join (ts.take (ts.length - 1)) (fun t ht => by
   rcases h1 t (List.mem_of_mem_take ht) with h5 | h5
   ·rw [← e1] at ht
    exact absurd h5 (of_decide_eq_true (List.mem_filter.1 ht).2)
   ·exact h5)
  unfold fmtL texts
  rw [e1]
  exact hj
 obtain ⟨ts', h5, h6, h7⟩ := hL.scan (fmtL ts).length (fmtL ts).length (Lex.skip_le ..)
 refine ⟨h3, ts', ?_, ?_⟩
 ·unfold Lex.scan
  rw [if_neg (by omega)]
  exact h5
 ·rw [h6, Nat.add_sub_cancel]
  exact h7
theorem PO.same {s t : Bytes} {x y : List Tr.C} {o er o' er' : Nat} (h : PO s x o er) (h' : PO t y o' er') {ts ts' : List Lex.Tok} (hs : Lex.scan s = .toks ts) (ht : Lex.scan t = .toks ts') (hl : s.length ≤ 2000) (hl' : t.length ≤ 2000) (e : rest ts' (ts'.length - 1) 0 = rest ts (ts.length - 1) 0) : x = y ∧ er = er' := by
 have h2 := h'.short ht hl'
 rw [e] at h2
 rcases h.short hs hl with ⟨a, _, rfl⟩ | ⟨k, u, a, _, _, rfl, _, rfl⟩
 ·rcases h2 with ⟨b, _, rfl⟩ | ⟨k', u', b, _, _, rfl, _, rfl⟩
  ·have := a.det b
   injection this with this
   exact ⟨this, rfl⟩
  ·have := a.det b
   cases this
 ·rcases h2 with ⟨b, _, rfl⟩ | ⟨k', u', b, _, _, rfl, _, rfl⟩
  ·have := a.det b
   cases this
  ·exact ⟨rfl, rfl⟩
def zeroE : Tr.E := .mk 0 0 0 ⟨#[]⟩ false []
def EO (s : Bytes) (x : Tr.E) (o er : Nat) : Prop :=
 (Lex.scan s = .bad o er ∧ x = zeroE) ∨
 (∃ ts, Lex.scan s = .toks ts ∧ Ev (fun f => pX f (rest ts (ts.length - 1) 0)) (.ok x []) ∧ Sy.sizeE x ≤ 4000 ∧ o = 0 ∧ er = 0) ∨
 (∃ ts y, Lex.scan s = .toks ts ∧ Ev (fun f => pX f (rest ts (ts.length - 1) 0)) (.ok y []) ∧ 4000 < Sy.sizeE y ∧ x = zeroE ∧ o = 0 ∧ er = 8) ∨
 (∃ ts k t, Lex.scan s = .toks ts ∧ Ev (fun f => pX f (rest ts (ts.length - 1) 0)) (.bad (rest ts (ts.length - 1) k)) ∧ k ≤ ts.length - 1 ∧ ts[k]? = some t ∧ x = zeroE ∧ o = t.pos ∧ er = 3)
theorem EO.same {s t : Bytes} {x y : Tr.E} {o er o' er' : Nat} (h : EO s x o er) (h' : EO t y o' er') {ts ts' : List Lex.Tok} (hs : Lex.scan s = .toks ts) (ht : Lex.scan t = .toks ts') (e : rest ts' (ts'.length - 1) 0 = rest ts (ts.length - 1) 0) : x = y ∧ er = er' := by
 rcases h with ⟨h, _⟩ | ⟨us, h, a, s1, _, rfl⟩ | ⟨us, z, h, a, s1, rfl, _, rfl⟩ | ⟨us, k, u, h, a, _, _, rfl, _, rfl⟩
 ·rw [hs] at h; cases h
 all_goals
  rw [hs] at h
  cases h
  rcases h' with ⟨h, _⟩ | ⟨us', h, b, s2, _, rfl⟩ | ⟨us', z', h, b, s2, rfl, _, rfl⟩ | ⟨us', k', u', h, b, _, _, rfl, _, rfl⟩
  ·rw [ht] at h; cases h
  all_goals
   rw [ht] at h
   cases h
   rw [e] at b
   have hd := a.det b
   first
    | (injection hd with hd; subst hd; first | exact ⟨rfl, rfl⟩ | omega)
    | exact ⟨rfl, rfl⟩
    | (cases hd; done)
end Pa
end Go.Proofs.YtdckddkalgnlpaaGreatDoor
namespace Go.Proofs.YtdckddkalgnlpaaGreatDoor
namespace Pa
open Tr
theorem lx_ind {s : Bytes} {ts : List B} (d : Nat) (h : Lx s ts) : Lx (Sy.ind d ++ s) ts := by
 unfold Sy.ind
 induction 2 * d with
 | zero => exact h
 | succ n ih => rw [List.replicate_succ]; exact lx_sp ih
theorem sep_lf (s : Bytes) : Sep (10 :: s) := sep_cons s (by decide) (by decide)
theorem lx_line {d : Nat} {x s : Bytes} {a ts : List B} (h : ∀ s ts, Sep s → Lx s ts → Lx (x ++ s) (a ++ ts)) (hl : Lx s ts) : Lx (Sy.line d x ++ s) (a ++ ts) := by
 unfold Sy.line
 rw [List.append_assoc, List.append_assoc]
 exact lx_ind d (h _ _ (sep_lf s) (lx_lf hl))
theorem Lx.cast {s s' : Bytes} {ts ts' : List B} (h : Lx s ts) (e : s' = s) (e2 : ts' = ts) : Lx s' ts' := by rw [e, e2]; exact h
abbrev LxT (x : Bytes) (a : List B) : Prop := ∀ s ts, Sep s → Lx s ts → Lx (x ++ s) (a ++ ts)
theorem lx_semi {x : Bytes} {a : List B} (h : LxT x a) : LxT (x ++ [59]) (a ++ [sy [59]]) := fun s ts _ hl => by
 rw [List.append_assoc, List.append_assoc]
 exact h _ _ (sep_cons s (by decide) (by decide)) (lx_one (c := 59) (by decide) (by decide) hl)
theorem lx_commasT : ∀ (l : List (Bytes × Toks)), (∀ x ∈ l, LxT x.1 x.2) → LxT (Sy.commas (l.map Prod.fst)) (commasT (l.map Prod.snd))
 | [], _, s, ts, _, hl => hl
 | [e], h, s, ts, hs, hl => h e (by simp) s ts hs hl
 | e :: x :: r, h, s, ts, hs, hl => by
   have ih := lx_commasT (x :: r) (fun y hy => h y (by simp at hy ⊢; exact .inr hy)) s ts hs hl
   show Lx ((e.1 ++ [44, 32] ++ Sy.commas (x.1 :: r.map Prod.fst)) ++ s) ((e.2 ++ sy [44] :: commasT (x.2 :: r.map Prod.snd)) ++ ts)
   rw [List.append_assoc, List.append_assoc, List.append_assoc, List.cons_append]
   exact h e (by simp) _ _ (sep_cons _ (by decide) (by decide)) (lx_one (by decide) (by decide) (lx_sp ih))
theorem lx_simple (s0 : S) (hf : FormS s0) (h3 : s0.kind ≠ 3) (h4 : s0.kind ≠ 4) : match s0 with | .mk k nm x _ _ => LxT (Sy.simple k nm.data.toList (Sy.texts x)) (simpleT k nm.data.toList (tokss x)) := by
 cases hf with
 | set k nm x hk hn hx =>
   intro s ts hs hl
   have hX := lx_expr x hx s ts hs hl
   rcases hk with rfl | rfl
   ·have e := lx_kw (w := [108, 101, 116]) (by decide) (sep_sp _) (lx_sp (lx_var hn (sep_sp _) (lx_sp (lx_sym1 (c := 61) (s := 32 :: (Sy.text x ++ s)) (by decide) (fun _ => ne_61 (sep_sp _)) (lx_sp hX)))))
    refine e.cast ?_ ?_
    ·rw [Sy.texts, Sy.texts]
     show ([108, 101, 116, 32] ++ nm.data.toList ++ [32, 61, 32] ++ Sy.text x) ++ s = _
     simp
    ·rw [tokss, tokss]
     rfl
   ·have e := lx_var hn (sep_sp _) (lx_sp (lx_sym1 (c := 61) (s := 32 :: (Sy.text x ++ s)) (by decide) (fun _ => ne_61 (sep_sp _)) (lx_sp hX)))
    refine e.cast ?_ ?_
    ·rw [Sy.texts, Sy.texts]
     show (nm.data.toList ++ [32, 61, 32] ++ Sy.text x) ++ s = _
     simp
    ·rw [tokss, tokss]
     rfl
 | store nm x y hn hx hy =>
   intro s ts hs hl
   have hX := lx_expr y hy s ts hs hl
   have e1 := lx_one (c := 46) (by decide) (by decide) (lx_var hn (sep_sp _) (lx_sp (lx_sym1 (c := 61) (s := 32 :: (Sy.text y ++ s)) (by decide) (fun _ => ne_61 (sep_sp _)) (lx_sp hX))))
   have e := lx_arg (lx_expr x hx) 9 (sep_cons _ (by decide) (by decide)) e1
   refine e.cast ?_ ?_
   ·rw [Sy.texts, Sy.texts, Sy.texts]
    show (argX 9 x ++ [46] ++ nm.data.toList ++ [32, 61, 32] ++ Sy.text y) ++ s = _
    simp
   ·rw [tokss, tokss, tokss]
    show (argT 9 x ++ sy [46] :: nmT nm.data.toList :: sy [61] :: toks y) ++ ts = _
    simp
 | cond x b l hx hb hl => exact absurd rfl h3
 | loop x b hx hb => exact absurd rfl h4
 | send nm x l hn hx hl0 =>
   intro s ts hs hl
   have e0 := lx_commas l (fun e he => lx_expr e (hl0 e he)) _ _ (sep_cons s (show Lex.wordc 41 = false by decide) (by decide)) (lx_one (c := 41) (by decide) (by decide) hl)
   have e1 := lx_one (c := 46) (by decide) (by decide) (lx_var hn (sep_cons _ (show Lex.wordc 40 = false by decide) (by decide)) (lx_one (c := 40) (by decide) (by decide) e0))
   have e := lx_kw (w := [115, 101, 110, 100]) (by decide) (sep_sp _) (lx_sp (lx_arg (lx_expr x hx) 8 (sep_cons _ (by decide) (by decide)) e1))
   refine e.cast ?_ ?_
   ·rw [Sy.texts, Sy.texts_map]
    show ([115, 101, 110, 100, 32] ++ argX 8 x ++ [46] ++ nm.data.toList ++ [40] ++ Sy.commas ((l.map fun e => (Sy.level e, Sy.text e)).map Prod.snd) ++ [41]) ++ s = _
    rw [List.map_map, show (Prod.snd ∘ fun e => (Sy.level e, Sy.text e)) = Sy.text from rfl]
    simp
   ·rw [tokss, tokss_map]
    show (kw [115, 101, 110, 100] :: (argT 8 x ++ sy [46] :: nmT nm.data.toList :: sy [40] :: (commasT ((l.map fun e => (Sy.level e, toks e)).map Prod.snd) ++ [sy [41]]))) ++ ts = _
    rw [List.map_map, show (Prod.snd ∘ fun e => (Sy.level e, toks e)) = toks from rfl]
    simp
 | print x hx =>
   intro s ts hs hl
   have e := lx_kw (w := [112, 114, 105, 110, 116]) (by decide) (sep_sp _) (lx_sp (lx_expr x hx s ts hs hl))
   refine e.cast ?_ ?_
   ·rw [Sy.texts, Sy.texts]
    show ([112, 114, 105, 110, 116, 32] ++ Sy.text x) ++ s = _
    simp
   ·rw [tokss, tokss]
    rfl
 | move x y hx hy =>
   intro s ts hs hl
   have e1 := lx_kw (w := [116, 111]) (by decide) (sep_sp _) (lx_sp (lx_expr y hy s ts hs hl))
   have e := lx_kw (w := [109, 111, 118, 101]) (by decide) (sep_sp _) (lx_sp (lx_expr x hx _ _ (sep_sp _) (lx_sp e1)))
   refine e.cast ?_ ?_
   ·rw [Sy.texts, Sy.texts, Sy.texts]
    show ([109, 111, 118, 101, 32] ++ Sy.text x ++ [32, 116, 111, 32] ++ Sy.text y) ++ s = _
    simp
   ·rw [tokss, tokss, tokss]
    show (kw [109, 111, 118, 101] :: (toks x ++ kw [116, 111] :: toks y)) ++ ts = _
    simp
 | watch nm x y hn hx hy =>
   intro s ts hs hl
   have e0 := lx_expr y hy _ _ (sep_cons s (show Lex.wordc 41 = false by decide) (by decide)) (lx_one (c := 41) (by decide) (by decide) hl)
   have e1 := lx_kw (w := [98, 121]) (by decide) (sep_sp _) (lx_sp (lx_var hn (sep_cons _ (show Lex.wordc 40 = false by decide) (by decide)) (lx_one (c := 40) (by decide) (by decide) e0)))
   have e := lx_kw (w := [119, 97, 116, 99, 104]) (by decide) (sep_sp _) (lx_sp (lx_expr x hx _ _ (sep_sp _) (lx_sp e1)))
   refine e.cast ?_ ?_
   ·rw [Sy.texts, Sy.texts, Sy.texts]
    show ([119, 97, 116, 99, 104, 32] ++ Sy.text x ++ [32, 98, 121, 32] ++ nm.data.toList ++ [40] ++ Sy.text y ++ [41]) ++ s = _
    simp
   ·rw [tokss, tokss, tokss]
    show (kw [119, 97, 116, 99, 104] :: (toks x ++ kw [98, 121] :: nmT nm.data.toList :: sy [40] :: (toks y ++ [sy [41]]))) ++ ts = _
    simp
 | ret =>
   intro s ts hs hl
   exact lx_kw (w := [114, 101, 116, 117, 114, 110]) (by decide) hs hl
theorem lx_head {w : Bytes} (hw : w ∈ Lex.keywords) {x : E} (hx : validE x = true) : LxT (w ++ 32 :: (Sy.text x ++ [32, 123])) (kw w :: (toks x ++ [sy [123]])) := fun s ts _ hl => by
 have e1 := lx_one (c := 123) (by decide) (by decide) hl
 have e := lx_kw hw (sep_sp _) (lx_sp (lx_expr x hx _ _ (sep_sp _) (lx_sp e1)))
 refine e.cast ?_ ?_ <;> simp
theorem lx_close : LxT [125] [sy [125]] := fun _ _ _ hl => lx_one (c := 125) (by decide) (by decide) hl
theorem lx_else : LxT [125, 32, 101, 108, 115, 101, 32, 123] [sy [125], kw [101, 108, 115, 101], sy [123]] := fun s ts _ hl => by
 have e1 := lx_one (c := 123) (by decide) (by decide) hl
 exact lx_one (c := 125) (by decide) (by decide) (lx_sp (lx_kw (w := [101, 108, 115, 101]) (by decide) (sep_sp _) (lx_sp e1)))
abbrev LxL (x : Bytes) (a : List B) : Prop := ∀ s ts, Lx s ts → Lx (x ++ s) (a ++ ts)
theorem lxl_line {d : Nat} {x : Bytes} {a : List B} (h : LxT x a) : LxL (Sy.line d x) a := fun _ _ hl => lx_line h hl
theorem LxL.app {x y : Bytes} {a b : List B} (h : LxL x a) (h2 : LxL y b) : LxL (x ++ y) (a ++ b) := fun s ts hl => by
 rw [List.append_assoc, List.append_assoc]
 exact h _ _ (h2 _ _ hl)
theorem LxL.nil : LxL [] [] := fun _ _ h => h
theorem LxL.cast {x y : Bytes} {a b : List B} (h : LxL x a) (e : y = x) (e2 : b = a) : LxL y b := by rw [e, e2]; exact h
theorem lx_ss : ∀ (d : Nat) (l : List S), (∀ s ∈ l, ∀ d, LxL (Sy.stmt d s) (tokS s)) → LxL (Sy.stmts d l) (tokSs l)
 | d, [], _ => by rw [Sy.stmts, tokSs]; exact LxL.nil
 | d, s :: r, h => by
   rw [Sy.stmts, tokSs]
   exact (h s (by simp) d).app (lx_ss d r fun x hx => h x (by simp [hx]))
theorem lxS_all : ∀ (n : Nat) (s : S), Sy.sizeS s ≤ n → validS s = true → ∀ d, LxL (Sy.stmt d s) (tokS s)
 | 0, s, h, _ => by have : 0 < Sy.sizeS s := by (cases s; rw [Sy.sizeS]; omega)
                    omega
 | n + 1, s, h, hv => by
   intro d
   have key : ∀ {k : Int} {nm : ByteArray} {x : List E} {b l : List S}, s = .mk k nm x b l → (∀ t ∈ b, validS t = true) → (∀ t ∈ l, validS t = true) → (∀ d, LxL (Sy.stmts d b) (tokSs b)) ∧ ∀ d, LxL (Sy.stmts d l) (tokSs l) := fun e hb hl => by
    subst e
    rw [Sy.sizeS] at h
    exact ⟨fun d => lx_ss d _ fun t ht => lxS_all n t (by have := size_in ht; omega) (hb t ht), fun d => lx_ss d _ fun t ht => lxS_all n t (by have := size_in ht; omega) (hl t ht)⟩
   have plain : s.kind ≠ 3 → s.kind ≠ 4 → LxL (Sy.stmt d s) (tokS s) := fun h3 h4 => by
    have hsm := lx_simple s (formS_of s hv) h3 h4
    obtain ⟨k, nm, x, b, l⟩ := s
    have h3 : ¬ k = 3 := h3
    have h4 : ¬ k = 4 := h4
    rw [Sy.stmt, tokS]
    unfold Sy.stmtT stmtK
    rw [if_neg h3, if_neg h4, if_neg h3, if_neg h4]
    exact lxl_line (lx_semi hsm)
   have hf := formS_of s hv
   generalize hs0 : s = s0 at hf
   cases hf with
   | cond x b l hx hb hl =>
     obtain ⟨h1, h2⟩ := key hs0 hb hl
     rw [Sy.stmt, tokS, Sy.texts, Sy.texts, tokss, tokss]
     have e0 := lxl_line (d := d) (lx_head (w := [105, 102]) (by decide) hx)
     have e3 := lxl_line (d := d) lx_close
     cases l with
     | nil =>
       refine (e0.app ((h1 (d + 1)).app e3)).cast ?_ ?_
       ·show Sy.line d ([105, 102, 32] ++ Sy.text x ++ [32, 123]) ++ Sy.stmts (d + 1) b ++ [] ++ Sy.line d [125] = _
        simp
       ·show kw [105, 102] :: (toks x ++ sy [123] :: (tokSs b ++ [sy [125]])) = _
        simp
     | cons t r =>
       refine (e0.app ((h1 (d + 1)).app ((lxl_line (d := d) lx_else).app ((h2 (d + 1)).app e3)))).cast ?_ ?_
       ·show Sy.line d ([105, 102, 32] ++ Sy.text x ++ [32, 123]) ++ Sy.stmts (d + 1) b ++ (Sy.line d [125, 32, 101, 108, 115, 101, 32, 123] ++ Sy.stmts (d + 1) (t :: r)) ++ Sy.line d [125] = _
        simp
       ·show kw [105, 102] :: (toks x ++ sy [123] :: (tokSs b ++ sy [125] :: kw [101, 108, 115, 101] :: sy [123] :: (tokSs (t :: r) ++ [sy [125]]))) = _
        simp
   | loop x b hx hb =>
     have h1 := (key hs0 hb (fun _ h => by cases h)).1
     rw [Sy.stmt, tokS, Sy.texts, Sy.texts, tokss, tokss]
     refine ((lxl_line (d := d) (lx_head (w := [119, 104, 105, 108, 101]) (by decide) hx)).app ((h1 (d + 1)).app (lxl_line (d := d) lx_close))).cast ?_ ?_
     ·show Sy.line d ([119, 104, 105, 108, 101, 32] ++ Sy.text x ++ [32, 123]) ++ Sy.stmts (d + 1) b ++ Sy.line d [125] = _
      simp
     ·show kw [119, 104, 105, 108, 101] :: (toks x ++ sy [123] :: (tokSs b ++ [sy [125]])) = _
      simp
   | set k nm x hk hn hx =>
     subst hs0
     rcases hk with rfl | rfl
     ·exact plain (show ¬ (0 : Int) = 3 by decide) (show ¬ (0 : Int) = 4 by decide)
     ·exact plain (show ¬ (1 : Int) = 3 by decide) (show ¬ (1 : Int) = 4 by decide)
   | store nm x y hn hx hy => subst hs0; exact plain (show ¬ (2 : Int) = 3 by decide) (show ¬ (2 : Int) = 4 by decide)
   | send nm x l hn hx hl => subst hs0; exact plain (show ¬ (5 : Int) = 3 by decide) (show ¬ (5 : Int) = 4 by decide)
   | print x hx => subst hs0; exact plain (show ¬ (6 : Int) = 3 by decide) (show ¬ (6 : Int) = 4 by decide)
   | move x y hx hy => subst hs0; exact plain (show ¬ (7 : Int) = 3 by decide) (show ¬ (7 : Int) = 4 by decide)
   | watch nm x y hn hx hy => subst hs0; exact plain (show ¬ (8 : Int) = 3 by decide) (show ¬ (8 : Int) = 4 by decide)
   | ret => subst hs0; exact plain (by decide) (by decide)
theorem lx_block (d : Nat) (l : List S) (hv : validSs l = true) : LxL (Sy.stmts d l) (tokSs l) := by
 rw [validSs_all, List.all_eq_true] at hv
 exact lx_ss d l fun s hs d => lxS_all _ s (Nat.le_refl _) (hv s hs) d
theorem lx_flat {α : Type} (f : α → Bytes) (g : α → Toks) : ∀ l : List α, (∀ x ∈ l, LxL (f x) (g x)) → LxL (l.map f).flatten (l.map g).flatten
 | [], _ => LxL.nil
 | x :: r, h => (h x (by simp)).app (lx_flat f g r fun y hy => h y (by simp [hy]))
theorem lx_field (s : ByteArray) (h : varB s = true) : LxL (Sy.fieldT s) (fieldK s) := by
 refine lxl_line (d := 1) (x := [118, 97, 114, 32] ++ s.data.toList ++ [59]) (a := fieldK s) fun r ts _ hl => ?_
 have e := lx_kw (w := [118, 97, 114]) (by decide) (sep_sp _) (lx_sp (lx_var h (sep_cons _ (by decide) (by decide)) (lx_one (c := 59) (by decide) (by decide) hl)))
 refine e.cast ?_ ?_
 ·simp
 ·rfl
theorem lx_method (m : M) (h : validM m = true) : LxL (Sy.methodT m) (tokM m) := by
 rw [validM, Bool.and_eq_true, Bool.and_eq_true, List.all_eq_true] at h
 obtain ⟨⟨hn, hp⟩, hb⟩ := h
 have hps : LxT (Sy.commas (m.params.map (·.data.toList))) (paramsT m.params) := by
  have := lx_commasT (m.params.map fun p => (p.data.toList, [nmT p.data.toList])) fun x hx => by
   obtain ⟨p, hpm, rfl⟩ := List.mem_map.1 hx
   exact fun s ts hs hl => lx_var (hp p hpm) hs hl
  rw [List.map_map, List.map_map] at this
  exact this
 have h0 : LxT ([111, 110, 32] ++ m.name.data.toList ++ [40] ++ Sy.commas (m.params.map (·.data.toList)) ++ [41, 32, 123]) (kw [111, 110] :: nmT m.name.data.toList :: sy [40] :: (paramsT m.params ++ [sy [41], sy [123]])) := fun s ts _ hl => by
  have e1 := lx_one (c := 41) (by decide) (by decide) (lx_sp (lx_one (c := 123) (by decide) (by decide) hl))
  have e2 := hps _ _ (sep_cons _ (show Lex.wordc 41 = false by decide) (by decide)) e1
  have e := lx_kw (w := [111, 110]) (by decide) (sep_sp _) (lx_sp (lx_var hn (sep_cons _ (show Lex.wordc 40 = false by decide) (by decide)) (lx_one (c := 40) (by decide) (by decide) e2)))
  refine e.cast ?_ ?_
  ·simp
  ·simp
 refine ((lxl_line (d := 1) h0).app ((lx_block 2 m.body hb).app (lxl_line (d := 1) lx_close))).cast ?_ ?_
 ·unfold Sy.methodT
  simp
 ·unfold tokM
  simp
theorem lx_class (c : C) (h : validC c = true) : LxL (Sy.classT c) (tokC c) := by
 rw [validC, Bool.and_eq_true, Bool.and_eq_true, Bool.and_eq_true, List.all_eq_true, List.all_eq_true] at h
 obtain ⟨⟨⟨hn, hf⟩, _⟩, hm⟩ := h
 have h0 : LxT ((if c.actor then [97, 99, 116, 111, 114, 32] else [114, 101, 99, 111, 114, 100, 32]) ++ c.name.data.toList ++ [32, 123]) [kw (if c.actor then [97, 99, 116, 111, 114] else [114, 101, 99, 111, 114, 100]), clT c.name.data.toList, sy [123]] := fun s ts _ hl => by
  have e2 := lx_sp (lx_cls hn (sep_sp _) (lx_sp (lx_one (c := 123) (by decide) (by decide) hl)))
  cases c.actor with
  | true =>
    refine (lx_kw (w := [97, 99, 116, 111, 114]) (by decide) (sep_sp _) e2).cast ?_ ?_
    ·simp
    ·rfl
  | false =>
    refine (lx_kw (w := [114, 101, 99, 111, 114, 100]) (by decide) (sep_sp _) e2).cast ?_ ?_
    ·simp
    ·rfl
 refine ((lxl_line (d := 0) h0).app ((lx_flat _ _ c.fields fun s hs => lx_field s (hf s hs)).app ((lx_flat _ _ c.methods fun m hmm => lx_method m (hm m hmm)).app (lxl_line (d := 0) lx_close)))).cast ?_ ?_
 ·unfold Sy.classT
  simp
 ·unfold tokC
  simp
theorem lx_prog (l : List C) (h : validP l = true) : Lx (Sy.progT l) (tokP l) := by
 rw [validP, List.all_eq_true] at h
 have := lx_flat Sy.classT tokC l (fun c hc => lx_class c (h c hc)) [] [] (.nil rfl)
 rw [List.append_nil, List.append_nil] at this
 exact this
end Pa
end Go.Proofs.YtdckddkalgnlpaaGreatDoor
namespace Go.Proofs.YtdckddkalgnlpaaGreatDoor
namespace Pa
theorem Ok.ev {α : Type} {p : Nat → R α} {a : α} {r : Toks} (h : Ok p a r) : Ev p (.ok a r) := h
theorem scan_of_lx {s : Bytes} {bs : List B} (h : Lx s bs) (hl : s.length ≤ 16384) : ∃ ts, Lex.scan s = .toks ts ∧ rest ts (ts.length - 1) 0 = bs := by
 obtain ⟨ts, h5, h6, h7⟩ := h.scan s.length s.length (Lex.skip_le ..)
 refine ⟨ts, ?_, ?_⟩
 ·unfold Lex.scan
  rw [if_neg (by omega)]
  exact h5
 ·rw [h6, Nat.add_sub_cancel]
  exact h7
theorem PO.back {s : Bytes} {x : List Tr.C} {o er : Nat} (h : PO s x o er) (he : er = 0) (hl : s.length ≤ 400) :
 Tr.validP x = true ∧ Sy.sizeP x ≤ 400 ∧ ∀ (y : List Tr.C) (o' er' : Nat), PO (Sy.programText x) y o' er' → (Sy.programText x).length ≤ 16384 → y = x ∧ er' = 0 := by
 subst he
 rcases h with ⟨h, _⟩ | ⟨ts, h, a, _, _, _⟩ | ⟨_, _, _, _, _, _, _, h⟩ | ⟨_, _, _, _, _, _, _, _, _, h⟩
 ·have := scan_badpos h
  omega
 ·have hv := (read_prog h a).1
  have hs := read_prog_len h a
  refine ⟨hv, by omega, fun y o' er' h2 hlen => ?_⟩
  have e : Sy.programText x = Sy.progT x := by unfold Sy.programText; rw [hv]; rfl
  rw [e] at h2 hlen
  obtain ⟨ts', h3, h4⟩ := scan_of_lx (lx_prog x hv) hlen
  have h5 := (rt_prog x hv).ev
  rw [← h4] at h5
  rcases h2 with ⟨h, _⟩ | ⟨us, h, b, _, _, h6⟩ | ⟨us, z, h, b, h6, _⟩ | ⟨us, k, t, h, b, _⟩
  ·rw [h3] at h; cases h
  ·rw [h3] at h; cases h
   have := h5.det b
   injection this with this
   exact ⟨this.symm, h6⟩
  ·rw [h3] at h; cases h
   have := h5.det b
   injection this with this
   subst this
   omega
  ·rw [h3] at h; cases h
   have := h5.det b
   cases this
 ·cases h
 ·cases h
theorem EO.back {s : Bytes} {x : Tr.E} {o er : Nat} (h : EO s x o er) (he : er = 0) (hl : s.length ≤ 400) :
 Tr.validE x = true ∧ Sy.sizeE x ≤ 400 ∧ ∀ (y : Tr.E) (o' er' : Nat), EO (Sy.exprText x) y o' er' → (Sy.exprText x).length ≤ 16384 → y = x ∧ er' = 0 := by
 subst he
 rcases h with ⟨h, _⟩ | ⟨ts, h, a, _, _, _⟩ | ⟨_, _, _, _, _, _, _, h⟩ | ⟨_, _, _, _, _, _, _, _, _, h⟩
 ·have := scan_badpos h
  omega
 ·have a' := pX_ok a
  have hv := (read_expr h a').1
  have hs := read_expr_len h a'
  refine ⟨hv, by omega, fun y o' er' h2 hlen => ?_⟩
  have e : Sy.exprText x = Sy.text x := by unfold Sy.exprText; rw [hv]; rfl
  rw [e] at h2 hlen
  have hlx := lx_expr x hv [] [] sep_nil (.nil rfl)
  rw [List.append_nil, List.append_nil] at hlx
  obtain ⟨ts', h3, h4⟩ := scan_of_lx hlx hlen
  have h5 := whole (rt_expr x hv) (rest := []) ⟨rfl, rfl, fun _ _ _ _ => rfl⟩
  rw [List.append_nil, ← h4] at h5
  have h6 : Ev (fun f => pX f (rest ts' (ts'.length - 1) 0)) (.ok x []) := .ok h5 (.const _)
  rcases h2 with ⟨h, _⟩ | ⟨us, h, b, _, _, h7⟩ | ⟨us, z, h, b, h7, _⟩ | ⟨us, k, t, h, b, _⟩
  ·rw [h3] at h; cases h
  ·rw [h3] at h; cases h
   have := h6.det b
   injection this with this
   exact ⟨this.symm, h7⟩
  ·rw [h3] at h; cases h
   have := h6.det b
   injection this with this
   subst this
   omega
  ·rw [h3] at h; cases h
   have := h6.det b
   cases this
 ·cases h
 ·cases h
end Pa
end Go.Proofs.YtdckddkalgnlpaaGreatDoor
namespace Go.Proofs.YtdckddkalgnlpaaGreatDoor
namespace Tr
theorem varB_short {s : ByteArray} (h : varB s = true) : s.size ≤ 40 := by
 unfold varB varL nameL at h
 simp only [Bool.and_eq_true, decide_eq_true_eq] at h
 rw [Lib.size_eq]
 omega
theorem clsB_short {s : ByteArray} (h : clsB s = true) : s.size ≤ 40 := by
 unfold clsB clsL nameL at h
 simp only [Bool.and_eq_true, decide_eq_true_eq] at h
 rw [Lib.size_eq]
 omega
theorem okE_short {k o i : Int} {nm : ByteArray} {a : Bool} {n : Nat} (h : okE k o i nm a n = true) : nm.size ≤ 40 := by
 unfold okE at h
 rw [Bool.and_eq_true] at h
 replace h := h.2
 repeat' split at h
 all_goals
  try simp only [Bool.and_eq_true, decide_eq_true_eq] at h
  first
   | omega
   | exact varB_short h.2
   | exact clsB_short h.1
   | cases h
theorem okS_short {k : Int} {nm : ByteArray} {n nb ne : Nat} (h : okS k nm n nb ne = true) : nm.size ≤ 40 := by
 unfold okS at h
 repeat' split at h
 all_goals
  try simp only [Bool.and_eq_true, decide_eq_true_eq] at h
  first
   | omega
   | exact varB_short h.2
   | cases h
mutual
theorem leftE_valid : ∀ (e : E) (n : Int), validE e = true → (Sy.sizeE e : Int) ≤ n → leftE e n = n - Sy.sizeE e
 | .mk k o i nm a l, n, h, hn => by
   rw [validE, Bool.and_eq_true] at h
   rw [Sy.sizeE] at hn ⊢
   rw [leftE, if_neg (by have := okE_short h.2; omega), leftEs_valid l (n - 1) h.1 (by omega)]
   omega
theorem leftEs_valid : ∀ (l : List E) (n : Int), validEs l = true → (Sy.sizeEs l : Int) ≤ n → leftEs l n = n - Sy.sizeEs l
 | [], n, _, _ => by rw [leftEs, Sy.sizeEs]; omega
 | e :: r, n, h, hn => by
   rw [validEs, Bool.and_eq_true] at h
   rw [Sy.sizeEs] at hn ⊢
   rw [leftEs, if_neg (by omega), leftE_valid e n h.1 (by omega), leftEs_valid r _ h.2 (by omega)]
   omega
end
mutual
theorem leftS_valid : ∀ (s : S) (n : Int), validS s = true → (Sy.sizeS s : Int) ≤ n → leftS s n = n - Sy.sizeS s
 | .mk k nm x b l, n, h, hn => by
   rw [validS, Bool.and_eq_true, Bool.and_eq_true, Bool.and_eq_true] at h
   rw [Sy.sizeS] at hn ⊢
   have h1 := leftEs_valid x (n - 1) h.1.1.1 (by omega)
   have h2 := leftSs_valid b (n - 1 - Sy.sizeEs x) h.1.2 (by omega)
   have h3 := leftSs_valid l (n - 1 - Sy.sizeEs x - Sy.sizeSs b) h.2 (by omega)
   rw [leftS, if_neg (by have := okS_short h.1.1.2; omega)]
   simp only [h1]
   rw [if_pos (show (0 : Int) ≤ n - 1 - Sy.sizeEs x by omega), h2, if_pos (show (0 : Int) ≤ n - 1 - Sy.sizeEs x - Sy.sizeSs b by omega), h3]
   omega
theorem leftSs_valid : ∀ (l : List S) (n : Int), validSs l = true → (Sy.sizeSs l : Int) ≤ n → leftSs l n = n - Sy.sizeSs l
 | [], n, _, _ => by rw [leftSs, Sy.sizeSs]; omega
 | e :: r, n, h, hn => by
   rw [validSs, Bool.and_eq_true] at h
   rw [Sy.sizeSs] at hn ⊢
   rw [leftSs, if_neg (by omega), leftS_valid e n h.1 (by omega), leftSs_valid r _ h.2 (by omega)]
   omega
end
theorem shortL_valid {l : List ByteArray} (h : l.all varB = true) (n : Int) : shortL l n = n - l.length := by
 unfold shortL
 rw [if_neg]
 rw [List.any_eq_true]
 rintro ⟨s, hs, h2⟩
 have := varB_short (List.all_eq_true.1 h s hs)
 have := of_decide_eq_true h2
 omega
theorem leftM_valid {m : M} {n : Int} (h : validM m = true) (hn : (Sy.sizeM m : Int) ≤ n) : leftM m n = n - Sy.sizeM m := by
 unfold validM at h
 rw [Bool.and_eq_true, Bool.and_eq_true] at h
 unfold Sy.sizeM at hn ⊢
 unfold leftM
 rw [if_neg (by have := varB_short h.1.1; omega)]
 simp only [shortL_valid h.1.2]
 rw [if_pos (by omega), leftSs_valid _ _ h.2 (by omega)]
 omega
theorem leftMs_valid : ∀ (l : List M) (n : Int), l.all validM = true → (((l.map Sy.sizeM).sum : Nat) : Int) ≤ n → leftMs l n = n - ((l.map Sy.sizeM).sum : Nat)
 | [], n, _, _ => by rw [leftMs]; simp
 | m :: r, n, h, hn => by
   rw [List.all_cons, Bool.and_eq_true] at h
   rw [List.map_cons, List.sum_cons] at hn ⊢
   rw [leftMs, if_neg (by omega), leftM_valid h.1 (by omega), leftMs_valid r _ h.2 (by omega)]
   omega
theorem leftC_valid {c : C} {n : Int} (h : validC c = true) (hn : (Sy.sizeC c : Int) ≤ n) : leftC c n = n - Sy.sizeC c := by
 unfold validC at h
 rw [Bool.and_eq_true, Bool.and_eq_true, Bool.and_eq_true] at h
 unfold Sy.sizeC at hn ⊢
 unfold leftC
 rw [if_neg (by have := clsB_short h.1.1.1; omega), shortL_valid h.1.1.2, leftMs_valid _ _ h.2 (by omega)]
 omega
theorem leftCs_valid : ∀ (l : List C) (n : Int), validP l = true → (Sy.sizeP l : Int) ≤ n → leftCs l n = n - Sy.sizeP l
 | [], n, _, _ => by rw [leftCs]; simp [Sy.sizeP]
 | c :: r, n, h, hn => by
   unfold validP at h
   rw [List.all_cons, Bool.and_eq_true] at h
   have e : Sy.sizeP (c :: r) = Sy.sizeC c + Sy.sizeP r := by unfold Sy.sizeP; rw [List.map_cons, List.sum_cons]
   rw [e] at hn ⊢
   rw [leftCs, if_neg (by omega), leftC_valid h.1 (by omega), leftCs_valid r _ h.2 (by omega)]
   omega
theorem fewP_valid {l : List C} {n : Nat} (h : validP l = true) (hn : Sy.sizeP l ≤ n) : fewP l n = true := by
 unfold fewP
 rw [leftCs_valid l n h (by omega)]
 exact decide_eq_true (by omega)
theorem fewE_valid {e : E} {n : Nat} (h : validE e = true) (hn : Sy.sizeE e ≤ n) : fewE e n = true := by
 unfold fewE
 rw [leftE_valid e n h (by omega)]
 exact decide_eq_true (by omega)
end Tr
end Go.Proofs.YtdckddkalgnlpaaGreatDoor
namespace Go.Proofs.YtdckddkalgnlpaaGreatDoor
open Go.RowKit
namespace Tr
theorem leftMs_neg {n : Int} (h : n < 0) : ∀ l, leftMs l n = n
 | [] => rfl
 | e :: r => by rw [leftMs, if_pos h]
theorem leftMs_cons {n : Int} (h : 0 ≤ n) (e : M) (r : List M) : leftMs (e :: r) n = leftMs r (leftM e n) := by rw [leftMs, if_neg (by omega)]
theorem leftCs_neg {n : Int} (h : n < 0) : ∀ l, leftCs l n = n
 | [] => rfl
 | e :: r => by rw [leftCs, if_pos h]
theorem leftCs_cons {n : Int} (h : 0 ≤ n) (e : C) (r : List C) : leftCs (e :: r) n = leftCs r (leftC e n) := by rw [leftCs, if_neg (by omega)]
end Tr
end Go.Proofs.YtdckddkalgnlpaaGreatDoor
