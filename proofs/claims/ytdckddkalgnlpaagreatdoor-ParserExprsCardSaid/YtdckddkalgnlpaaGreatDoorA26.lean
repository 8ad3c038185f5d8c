/-
  Several texts in one: PaExt, PaVal.
-/
import Derived.Test.YtdckddkalgnlpaaGreatDoorA7
namespace Go.Proofs.YtdckddkalgnlpaaGreatDoor
namespace Pa
open Tr
section
variable {α β : Type}
def R.rest : R α → Toks
 | .ok _ r => r
 | .bad r => r
def R.app (x : R α) (suf : Toks) : R α :=
 match x with
 | .ok a r => .ok a (r ++ suf)
 | .bad r => .bad (r ++ suf)
def Ext (p : Toks → R α) : Prop := (p []).rest = [] ∧ ∀ ts suf, (p ts).rest ≠ [] → p (ts ++ suf) = (p ts).app suf
theorem Ext.bad : Ext (fun ts => (.bad ts : R α)) := ⟨rfl, fun _ _ _ => rfl⟩
theorem Ext.ok (a : α) : Ext (fun ts => (.ok a ts : R α)) := ⟨rfl, fun _ _ _ => rfl⟩
theorem opOf_app {ops : List Int} {ts : Toks} (suf : Toks) (h : ts ≠ []) : opOf ops (ts ++ suf) = opOf ops ts := by
 unfold opOf
 congr 1
 funext o
 exact is_app suf h
theorem opOf_nil (ops : List Int) : opOf ops [] = none := by
 unfold opOf
 rw [List.find?_eq_none]
 intro o _ h
 exact absurd h (by show ¬ false = true; decide)
theorem Ext.op {ops : List Int} {p : Int → Toks → R α} {q : Toks → R α} (hp : ∀ o, Ext (p o)) (hq : Ext q) : Ext (fun ts => match opOf ops ts with | some o => p o ts.tail | none => q ts) := by
 refine ⟨?_, fun ts suf hr => ?_⟩
 ·show (match opOf ops [] with | some o => p o [] | none => q []).rest = []
  rw [opOf_nil]
  exact hq.1
 ·cases ts with
  | nil => exact absurd (by show (match opOf ops [] with | some o => p o [] | none => q []).rest = []; rw [opOf_nil]; exact hq.1) hr
  | cons x r =>
    have hr : (match opOf ops (x :: r) with | some o => p o r | none => q (x :: r)).rest ≠ [] := hr
    show (match opOf ops (x :: r ++ suf) with | some o => p o (r ++ suf) | none => q (x :: r ++ suf)) = (match opOf ops (x :: r) with | some o => p o r | none => q (x :: r)).app suf
    rw [opOf_app suf (List.cons_ne_nil x r)]
    cases hc : opOf ops (x :: r) with
    | some o => rw [hc] at hr; exact (hp o).2 r suf hr
    | none => rw [hc] at hr; exact hq.2 (x :: r) suf hr
end
def pC' (f : Nat) (ac : Bool) (ts : Toks) : R C := (word 3 ts).bind fun n r => (expect [123] r).bind fun _ r => (pFields f [] r).bind fun fs r =>
    (if ac then pMs f [] r else .ok [] r).bind fun ms r => (expect [125] r).bind fun _ r => .ok ⟨n, ac, fs, ms⟩ r
theorem pC_eq (f : Nat) (ts : Toks) : pC f ts = if is [97, 99, 116, 111, 114] ts then pC' f true ts.tail else (expect [114, 101, 99, 111, 114, 100] ts).bind fun _ r => pC' f false r := by
 unfold pC pC'
 cases is [97, 99, 116, 111, 114] ts <;> rfl
end Pa
end Go.Proofs.YtdckddkalgnlpaaGreatDoor
namespace Go.Proofs.YtdckddkalgnlpaaGreatDoor
namespace Pa
open Tr
def GoodT (x : B) : Prop := (x.kind = 1 → x.val ≤ 2305843009213693951) ∧ (x.kind = 2 → varB ⟨x.text.toArray⟩ = true) ∧ (x.kind = 3 → clsB ⟨x.text.toArray⟩ = true)
def Good (ts : Toks) : Prop := ∀ x ∈ ts, GoodT x
theorem Good.suf {r ts : Toks} (h : Good ts) (hs : r <:+ ts) : Good r := fun x hx => h x (hs.subset hx)
section
variable {α β : Type}
def Res (p : Toks → R α) (P : α → Nat → Prop) : Prop := ∀ ts, Good ts → (p ts).rest <:+ ts ∧ ∀ a r, p ts = .ok a r → P a (ts.length - r.length)
theorem Res.bad (P : α → Nat → Prop) : Res (fun ts => (.bad ts : R α)) P := fun ts _ => ⟨List.suffix_refl _, fun _ _ h => by cases h⟩
theorem Res.ok {P : α → Nat → Prop} (a : α) (h : P a 0) : Res (fun ts => (.ok a ts : R α)) P := fun ts _ => ⟨List.suffix_refl _, fun b r e => by
 injection e with e1 e2
 subst e1
 subst e2
 rw [Nat.sub_self]
 exact h⟩
theorem Res.bind {p : Toks → R α} {q : α → Toks → R β} {P : α → Nat → Prop} {Q : β → Nat → Prop} (hp : Res p P) (hq : ∀ a n, P a n → Res (q a) (fun b m => Q b (n + m))) : Res (fun ts => (p ts).bind q) Q := by
 intro ts hg
 obtain ⟨h1, h2⟩ := hp ts hg
 show ((p ts).bind q).rest <:+ ts ∧ ∀ a r, (p ts).bind q = .ok a r → Q a (ts.length - r.length)
 cases h : p ts with
 | bad r => rw [h] at h1; exact ⟨h1, fun _ _ e => by cases e⟩
 | ok a r =>
   rw [h] at h1
   have hs : r <:+ ts := h1
   obtain ⟨s2, v2⟩ := hq a _ (h2 a r h) r (hg.suf hs)
   refine ⟨s2.trans hs, fun b r2 e => ?_⟩
   have e : q a r = .ok b r2 := e
   have hv := v2 b r2 e
   rw [e] at s2
   have hl := (show r2 <:+ r from s2).length_le
   have hl2 := hs.length_le
   have : ts.length - r.length + (r.length - r2.length) = ts.length - r2.length := by omega
   rw [this] at hv
   exact hv
theorem Res.mono {p : Toks → R α} {P Q : α → Nat → Prop} (h : Res p P) (hi : ∀ a n, P a n → Q a n) : Res p Q := fun ts hg => ⟨(h ts hg).1, fun a r e => hi _ _ ((h ts hg).2 a r e)⟩
theorem Res.ite {t : Bytes} {p q : Toks → R α} {P : α → Nat → Prop} (hp : Res p (fun a n => P a (1 + n))) (hq : Res q P) : Res (fun ts => if is t ts then p ts.tail else q ts) P := by
 intro ts hg
 cases ts with
 | nil => exact hq [] hg
 | cons x r =>
   show R.rest (if is t (x :: r) = true then p r else q (x :: r)) <:+ x :: r ∧ ∀ a r2, (if is t (x :: r) = true then p r else q (x :: r)) = .ok a r2 → P a ((x :: r).length - r2.length)
   by_cases hc : is t (x :: r) = true
   ·rw [if_pos hc]
    obtain ⟨h1, h2⟩ := hp r (hg.suf (List.suffix_cons x r))
    refine ⟨h1.trans (List.suffix_cons x r), fun a r2 e => ?_⟩
    have hv := h2 a r2 e
    rw [e] at h1
    have hl := (show r2 <:+ r from h1).length_le
    have : 1 + (r.length - r2.length) = (x :: r).length - r2.length := by rw [List.length_cons]; omega
    rw [this] at hv
    exact hv
   ·rw [if_neg hc]
    exact hq (x :: r) hg
theorem Res.cong {p q : Toks → R α} {P : α → Nat → Prop} (h : ∀ ts, p ts = q ts) (hq : Res q P) : Res p P := by
 rw [show p = q from funext h]; exact hq
theorem res_expect (t : Bytes) : Res (expect t) (fun _ n => n = 1) := (Res.ite (t := t) (Res.ok () rfl) (Res.bad _)).cong fun _ => rfl
theorem res_word (k : Nat) : Res (word k) (fun nm n => n = 1 ∧ (k = 2 → varB nm = true) ∧ (k = 3 → clsB nm = true)) := by
 intro ts hg
 cases ts with
 | nil => exact ⟨List.suffix_refl _, fun _ _ h => by cases h⟩
 | cons x r =>
   have hx := hg x (by simp)
   show R.rest (if x.kind = k then R.ok _ r else R.bad (x :: r)) <:+ x :: r ∧ ∀ a r2, (if x.kind = k then R.ok (⟨x.text.toArray⟩ : ByteArray) r else R.bad (x :: r)) = .ok a r2 → _
   by_cases hk : x.kind = k
   ·rw [if_pos hk]
    refine ⟨List.suffix_cons x r, fun a r2 e => ?_⟩
    injection e with e1 e2
    subst e1
    subst e2
    exact ⟨by rw [List.length_cons]; omega, fun h => hx.2.1 (hk.trans h), fun h => hx.2.2 (hk.trans h)⟩
   ·rw [if_neg hk]
    exact ⟨List.suffix_refl _, fun _ _ h => by cases h⟩
theorem Res.op {ops : List Int} {p : Int → Toks → R α} {q : Toks → R α} {P : α → Nat → Prop} (hp : ∀ o ∈ ops, Res (p o) (fun a n => P a (1 + n))) (hq : Res q P) : Res (fun ts => match opOf ops ts with | some o => p o ts.tail | none => q ts) P := by
 intro ts hg
 cases ts with
 | nil =>
   show (match opOf ops [] with | some o => p o [] | none => q []).rest <:+ [] ∧ ∀ a r, (match opOf ops [] with | some o => p o [] | none => q []) = .ok a r → _
   rw [opOf_nil]
   exact hq [] hg
 | cons x r =>
   show (match opOf ops (x :: r) with | some o => p o r | none => q (x :: r)).rest <:+ x :: r ∧ ∀ a r2, (match opOf ops (x :: r) with | some o => p o r | none => q (x :: r)) = .ok a r2 → P a ((x :: r).length - r2.length)
   cases hc : opOf ops (x :: r) with
   | some o =>
     obtain ⟨h1, h2⟩ := hp o (List.mem_of_find?_eq_some hc) r (hg.suf (List.suffix_cons x r))
     refine ⟨h1.trans (List.suffix_cons x r), fun a r2 e => ?_⟩
     have e : p o r = .ok a r2 := e
     have hv := h2 a r2 e
     rw [e] at h1
     have hl := (show r2 <:+ r from h1).length_le
     have : 1 + (r.length - r2.length) = (x :: r).length - r2.length := by rw [List.length_cons]; omega
     rw [this] at hv
     exact hv
   | none => exact hq (x :: r) hg
end
def VE (e : E) (n : Nat) : Prop := validE e = true ∧ Sy.sizeE e ≤ n
def VL (l : List E) (n : Nat) : Prop := (∀ e ∈ l, validE e = true) ∧ Sy.sizeEs l ≤ n
theorem valid_mk (k o i : Int) (nm : ByteArray) (a : Bool) (l : List E) (h : ∀ e ∈ l, validE e = true) (hok : okE k o i nm a l.length = true) : validE (.mk k o i nm a l) = true := by
 rw [validE, Bool.and_eq_true, validEs_all, List.all_eq_true]
 exact ⟨h, hok⟩
theorem ve_bin {o : Int} (h0 : 0 ≤ o) (h1 : o ≤ 12) {a b : E} {n m : Nat} (ha : VE a n) (hb : VE b m) : VE (bin o a b) (n + (1 + m)) := by
 refine ⟨valid_mk _ _ _ _ _ _ (by simp [ha.1, hb.1]) ?_, ?_⟩
 ·rw [okE_10]
  exact decide_eq_true ⟨rfl, rfl, h0, h1⟩
 ·unfold bin
  rw [Sy.sizeE, Sy.sizeEs, Sy.sizeEs, Sy.sizeEs]
  have := ha.2
  have := hb.2
  omega
theorem ve_un {k : Int} (hk : k = 6 ∨ k = 7 ∨ k = 8 ∨ k = 9) {a : E} {n : Nat} (ha : VE a n) : VE (un k a) (1 + n) := by
 refine ⟨valid_mk _ _ _ _ _ _ (by simp [ha.1]) ?_, ?_⟩
 ·rcases hk with rfl | rfl | rfl | rfl <;> rfl
 ·unfold un
  rw [Sy.sizeE, Sy.sizeEs, Sy.sizeEs]
  have := ha.2
  omega
theorem ve_fld {nm : ByteArray} (hn : varB nm = true) {a : E} {n : Nat} (ha : VE a n) : VE (fld nm a) (n + 1) := by
 refine ⟨valid_mk _ _ _ _ _ _ (by simp [ha.1]) ?_, ?_⟩
 ·show (_ && (decide (1 = 1) && varB nm)) = true
  rw [hn]
  rfl
 ·unfold fld
  rw [Sy.sizeE, Sy.sizeEs, Sy.sizeEs]
  have := ha.2
  omega
theorem ve_var {nm : ByteArray} (hn : varB nm = true) : VE (var nm) 1 := by
 refine ⟨valid_mk _ _ _ _ _ _ (by simp) ?_, ?_⟩
 ·show (_ && (decide (0 = 0) && varB nm)) = true
  rw [hn]
  rfl
 ·unfold var
  rw [Sy.sizeE, Sy.sizeEs]
  exact Nat.le_refl _
theorem ve_num {v : Nat} (hv : v ≤ 2305843009213693951) : VE (num v) 1 := by
 refine ⟨valid_mk _ _ _ _ _ _ (by simp) ?_, ?_⟩
 ·rw [okE_0]
  exact decide_eq_true ⟨rfl, rfl, by omega, by omega⟩
 ·unfold num
  rw [Sy.sizeE, Sy.sizeEs]
  exact Nat.le_refl _
theorem ve_leaf {k : Int} (hk : k = 1 ∨ k = 2) : VE (leaf k) 1 := by
 refine ⟨valid_mk _ _ _ _ _ _ (by simp) ?_, ?_⟩
 ·rcases hk with rfl | rfl <;> rfl
 ·unfold leaf
  rw [Sy.sizeE, Sy.sizeEs]
  exact Nat.le_refl _
theorem ve_new {nm : ByteArray} (hn : clsB nm = true) {a : Bool} {l : List E} {n : Nat} (hl : VL l n) (ha : a = true → l ≠ []) : VE (new nm a l) (1 + n) := by
 refine ⟨valid_mk _ _ _ _ _ _ hl.1 ?_, ?_⟩
 ·show (!(_ || _ || (decide ((5 : Int) ≠ 5) && a)) && (clsB nm && (!a || decide (0 < l.length)))) = true
  rw [hn]
  cases a with
  | false => rfl
  | true =>
    have : 0 < l.length := List.length_pos_iff.2 (ha rfl)
    rw [decide_eq_true this]
    rfl
 ·unfold new
  rw [Sy.sizeE]
  have := hl.2
  omega
theorem VE.le {e : E} {n m : Nat} (h : VE e n) (hm : n ≤ m) : VE e m := ⟨h.1, Nat.le_trans h.2 hm⟩
theorem VL.le {l : List E} {n m : Nat} (h : VL l n) (hm : n ≤ m) : VL l m := ⟨h.1, Nat.le_trans h.2 hm⟩
theorem sizeEs_app : ∀ a b : List E, Sy.sizeEs (a ++ b) = Sy.sizeEs a + Sy.sizeEs b
 | [], b => by rw [List.nil_append, Sy.sizeEs, Nat.zero_add]
 | x :: r, b => by rw [List.cons_append, Sy.sizeEs, Sy.sizeEs, sizeEs_app r b, Nat.add_assoc]
theorem VL.snoc {l : List E} {e : E} {n m : Nat} (h : VL l n) (he : VE e m) : VL (l ++ [e]) (n + m) := by
 refine ⟨fun x hx => ?_, ?_⟩
 ·rcases List.mem_append.1 hx with hx | hx
  ·exact h.1 x hx
  ·obtain rfl := List.mem_singleton.1 hx; exact he.1
 ·rw [sizeEs_app, Sy.sizeEs, Sy.sizeEs]
  have := h.2
  have := he.2
  omega
structure ValE (f : Nat) : Prop where
 pE : ∀ lv, Res (pE f lv) VE
 pL : ∀ lv ops a n, (∀ o ∈ ops, 0 ≤ o ∧ o ≤ 12) → VE a n → Res (pL f lv ops a) (fun b m => VE b (n + m))
 pF : ∀ a n, VE a n → Res (pF f a) (fun b m => VE b (n + m))
 pO : Res (pO f) VE
 pA : Res (pA f) VL
 pM : ∀ l n, VL l n → Res (pM f l) (fun l m => VL l (n + m))
theorem val_op {f lv : Nat} (h : ValE f) (ops : List Int) (ho : ∀ o ∈ ops, 0 ≤ o ∧ o ≤ 12) {a : E} {n : Nat} (ha : VE a n) : Res (fun ts => match opOf ops ts with | some o => (pE f lv ts.tail).bind fun b r => .ok (bin o a b) r | none => .ok a ts) (fun b m => VE b (n + m)) :=
 Res.op (p := fun o ts => (pE f lv ts).bind fun b r => .ok (bin o a b) r) (fun o hm => (h.pE lv).bind fun _ _ hb => Res.ok _ (ve_bin (ho o hm).1 (ho o hm).2 ha hb)) (Res.ok a ha)
theorem val_pE {f : Nat} (h : ValE f) (lv : Nat) : Res (pE (f + 1) lv) VE := by
 have h12 : ∀ o ∈ ([12] : List Int), 0 ≤ o ∧ o ≤ 12 := by decide
 have h11 : ∀ o ∈ ([11] : List Int), 0 ≤ o ∧ o ≤ 12 := by decide
 have hcm : ∀ o ∈ ([5, 6, 7, 8, 9, 10] : List Int), 0 ≤ o ∧ o ≤ 12 := by decide
 have hsm : ∀ o ∈ ([0, 1] : List Int), 0 ≤ o ∧ o ≤ 12 := by decide
 have hpr : ∀ o ∈ ([2, 3, 4] : List Int), 0 ≤ o ∧ o ≤ 12 := by decide
 by_cases h0 : lv = 0
 ·subst h0; exact Res.cong (pE_0 f) ((h.pE 1).bind fun a n ha => h.pL 1 [12] a n h12 ha)
 by_cases h1 : lv = 1
 ·subst h1; exact Res.cong (pE_1 f) ((h.pE 2).bind fun a n ha => h.pL 2 [11] a n h11 ha)
 by_cases h2 : lv = 2
 ·subst h2; exact Res.cong (pE_2 f) (Res.ite (p := fun ts => (pE f 2 ts).bind fun a r => .ok (un 9 a) r) ((h.pE 2).bind fun _ _ ha => Res.ok _ (ve_un (by omega) ha)) (h.pE 3))
 by_cases h3 : lv = 3
 ·subst h3; exact Res.cong (pE_3 f) ((h.pE 4).bind fun _ _ ha => val_op (lv := 4) h [5, 6, 7, 8, 9, 10] hcm ha)
 by_cases h4 : lv = 4
 ·subst h4; exact Res.cong (pE_4 f) ((h.pE 5).bind fun a n ha => h.pL 5 [0, 1] a n hsm ha)
 by_cases h5 : lv = 5
 ·subst h5; exact Res.cong (pE_5 f) ((h.pE 6).bind fun a n ha => h.pL 6 [2, 3, 4] a n hpr ha)
 by_cases h6 : lv = 6
 ·subst h6
  exact Res.cong (pE_6 f) (Res.ite (p := fun ts => (pE f 6 ts).bind fun a r => .ok (un 8 a) r) ((h.pE 6).bind fun _ _ ha => Res.ok _ (ve_un (by omega) ha)) (Res.ite (p := fun ts => (pE f 6 ts).bind fun a r => .ok (un 6 a) r) ((h.pE 6).bind fun _ _ ha => Res.ok _ (ve_un (by omega) ha)) (Res.ite (p := fun ts => (pE f 6 ts).bind fun a r => .ok (un 7 a) r) ((h.pE 6).bind fun _ _ ha => Res.ok _ (ve_un (by omega) ha)) (h.pE 7))))
 ·exact (h.pO.bind fun a n ha => h.pF a n ha).cong fun ts => by rw [pE, if_neg h0, if_neg h1, if_neg h2, if_neg h3, if_neg h4, if_neg h5, if_neg h6]
theorem res_cons {α : Type} {P : α → Nat → Prop} {q : Toks → R α} {x : B} {r : Toks} (hg : Good (x :: r)) (h : Res q (fun a n => P a (1 + n))) : (q r).rest <:+ x :: r ∧ ∀ a r2, q r = .ok a r2 → P a ((x :: r).length - r2.length) := by
 obtain ⟨h1, h2⟩ := h r (hg.suf (List.suffix_cons x r))
 refine ⟨h1.trans (List.suffix_cons x r), fun a r2 e => ?_⟩
 have hv := h2 a r2 e
 rw [e] at h1
 have hl := (show r2 <:+ r from h1).length_le
 have : 1 + (r.length - r2.length) = (x :: r).length - r2.length := by rw [List.length_cons]; omega
 rw [this] at hv
 exact hv
theorem val_pO {f : Nat} (h : ValE f) : Res (pO (f + 1)) VE := by
 intro ts hg
 cases ts with
 | nil => rw [pO]; exact ⟨List.suffix_refl _, fun _ _ h => by cases h⟩
 | cons x r =>
   have hx := hg x (by simp)
   rw [pO_s]
   by_cases c1 : x.kind = 1
   ·rw [if_pos c1]; exact res_cons (q := fun ts => .ok (num x.val) ts) hg (Res.ok _ (ve_num (hx.1 c1)))
   rw [if_neg c1]
   by_cases c2 : x.kind = 2
   ·rw [if_pos c2]; exact res_cons (q := fun ts => .ok (var ⟨x.text.toArray⟩) ts) hg (Res.ok _ (ve_var (hx.2.1 c2)))
   rw [if_neg c2]
   by_cases c3 : is [110, 105, 108] (x :: r) = true
   ·rw [if_pos c3]; exact res_cons (q := fun ts => .ok (leaf 1) ts) hg (Res.ok _ (ve_leaf (by omega)))
   rw [if_neg c3]
   by_cases c4 : is [116, 104, 105, 115] (x :: r) = true
   ·rw [if_pos c4]; exact res_cons (q := fun ts => .ok (leaf 2) ts) hg (Res.ok _ (ve_leaf (by omega)))
   rw [if_neg c4]
   by_cases c5 : is [40] (x :: r) = true
   ·rw [if_pos c5]
    exact res_cons (P := VE) (q := fun ts => (pE f 0 ts).bind fun a r => (expect [41] r).bind fun _ r => .ok a r) hg ((h.pE 0).bind fun a n ha => (res_expect [41]).bind fun _ m _ => Res.ok a (ha.le (by omega)))
   rw [if_neg c5]
   by_cases c6 : is [110, 101, 119] (x :: r) = true
   ·rw [if_pos c6]
    refine res_cons (P := VE) (q := fun ts => (word 3 ts).bind fun n r => (pA f r).bind fun l r => if is [97, 116] r then (pE f 6 r.tail).bind fun b r => .ok (new n true (l ++ [b])) r else .ok (new n false l) r) hg ?_
    refine (res_word 3).bind fun nm n hn => h.pA.bind fun l m hl => Res.ite (p := fun ts => (pE f 6 ts).bind fun b r => .ok (new nm true (l ++ [b])) r) ((h.pE 6).bind fun b k hb => Res.ok _ ?_) (Res.ok _ ?_)
    ·exact (ve_new (hn.2.2 rfl) (hl.snoc hb) (fun _ => by simp)).le (by omega)
    ·exact (ve_new (a := false) (hn.2.2 rfl) hl (fun h => by cases h)).le (by omega)
   ·rw [if_neg c6]; exact ⟨List.suffix_refl _, fun _ _ h => by cases h⟩
theorem val_all : ∀ f, ValE f
 | 0 => ⟨fun _ => (Res.bad _).cong fun ts => by rw [pE], fun _ _ _ _ _ _ => (Res.bad _).cong fun ts => by rw [pL], fun _ _ _ => (Res.bad _).cong fun ts => by rw [pF], (Res.bad _).cong fun ts => by rw [pO], (Res.bad _).cong fun ts => by rw [pA], fun _ _ _ => (Res.bad _).cong fun ts => by rw [pM]⟩
 | f + 1 =>
   have h := val_all f
   ⟨val_pE h,
    fun lv ops a n ho ha => Res.cong (pL_s f lv ops a) (Res.op (p := fun o ts => (pE f lv ts).bind fun b r => pL f lv ops (bin o a b) r) (fun o hm => (h.pE lv).bind fun b m hb => (h.pL lv ops (bin o a b) _ ho (ve_bin (ho o hm).1 (ho o hm).2 ha hb)).mono fun _ k hk => hk.le (by omega)) (Res.ok a ha)),
    fun a n ha => Res.cong (pF_s f a) (Res.ite (p := fun ts => (word 2 ts).bind fun n r => pF f (fld n a) r) ((res_word 2).bind fun nm m hm => (h.pF (fld nm a) _ (ve_fld (hm.2.1 rfl) ha)).mono fun _ k hk => hk.le (by omega)) (Res.ok a ha)),
    val_pO h,
    Res.cong (pA_s f) ((res_expect [40]).bind fun _ n _ => Res.ite (p := fun r => .ok [] r) (Res.ok [] ⟨by simp, by rw [Sy.sizeEs]; omega⟩) ((h.pE 0).bind fun a m ha => (h.pM [a] m ⟨by simp [ha.1], by rw [Sy.sizeEs, Sy.sizeEs]; exact ha.2⟩).mono fun _ k hk => hk.le (by omega))),
    fun l n hl => Res.cong (pM_s f l) (Res.ite (p := fun ts => (pE f 0 ts).bind fun a r => pM f (l ++ [a]) r) ((h.pE 0).bind fun a m ha => (h.pM (l ++ [a]) _ (hl.snoc ha)).mono fun _ k hk => hk.le (by omega)) ((res_expect [41]).bind fun _ m _ => Res.ok l (hl.le (by omega))))⟩
def VS (s : S) (n : Nat) : Prop := validS s = true ∧ Sy.sizeS s ≤ n
def VSs (l : List S) (n : Nat) : Prop := validSs l = true ∧ Sy.sizeSs l ≤ n
theorem VS.le {e : S} {n m : Nat} (h : VS e n) (hm : n ≤ m) : VS e m := ⟨h.1, Nat.le_trans h.2 hm⟩
theorem VSs.le {l : List S} {n m : Nat} (h : VSs l n) (hm : n ≤ m) : VSs l m := ⟨h.1, Nat.le_trans h.2 hm⟩
theorem sizeSs_app : ∀ a b : List S, Sy.sizeSs (a ++ b) = Sy.sizeSs a + Sy.sizeSs b
 | [], b => by rw [List.nil_append, Sy.sizeSs, Nat.zero_add]
 | x :: r, b => by rw [List.cons_append, Sy.sizeSs, Sy.sizeSs, sizeSs_app r b, Nat.add_assoc]
theorem VSs.snoc {l : List S} {e : S} {n m : Nat} (h : VSs l n) (he : VS e m) : VSs (l ++ [e]) (n + m) := by
 refine ⟨?_, ?_⟩
 ·rw [validSs_all, List.all_append, ← validSs_all, h.1, List.all_cons, he.1]
  rfl
 ·rw [sizeSs_app, Sy.sizeSs, Sy.sizeSs]
  have := h.2
  have := he.2
  omega
theorem vs_mk {k : Int} {nm : ByteArray} {x : List E} {b l : List S} {n1 n2 n3 : Nat} (hx : VL x n1) (hb : VSs b n2) (hl : VSs l n3) (hok : okS k nm x.length b.length l.length = true) : VS (.mk k nm x b l) (1 + n1 + n2 + n3) := by
 refine ⟨?_, ?_⟩
 ·rw [validS, hok, hb.1, hl.1, validEs_all, (List.all_eq_true).2 hx.1]
  rfl
 ·rw [Sy.sizeS]
  have := hx.2
  have := hb.2
  have := hl.2
  omega
theorem vl_nil : VL [] 0 := ⟨by simp, by rw [Sy.sizeEs]; omega⟩
theorem vl_one {a : E} {n : Nat} (h : VE a n) : VL [a] n := ⟨by simp [h.1], by rw [Sy.sizeEs, Sy.sizeEs]; exact h.2⟩
theorem vl_two {a b : E} {n m : Nat} (h : VE a n) (hb : VE b m) : VL [a, b] (n + m) := (vl_one h).snoc hb
theorem vl_cons {a : E} {l : List E} {n m : Nat} (h : VE a n) (hl : VL l m) : VL (a :: l) (n + m) := ⟨fun x hx => by
 rcases List.mem_cons.1 hx with rfl | hx
 ·exact h.1
 ·exact hl.1 x hx, by rw [Sy.sizeEs]; have := h.2; have := hl.2; omega⟩
theorem vss_nil : VSs [] 0 := ⟨rfl, by rw [Sy.sizeSs]; omega⟩
theorem vs_plain {k : Int} {nm : ByteArray} {x : List E} {n : Nat} (hx : VL x n) (hok : okS k nm x.length 0 0 = true) : VS (.mk k nm x [] []) (1 + n) := (vs_mk hx vss_nil vss_nil hok).le (by omega)
theorem okS_named {k : Int} (hk : k = 0 ∨ k = 1) {nm : ByteArray} (h : varB nm = true) : okS k nm 1 0 0 = true := by
 rcases hk with rfl | rfl
 ·show (decide (1 = 1 ∧ 0 = 0 ∧ 0 = 0) && varB nm) = true; rw [h]; rfl
 ·show (decide (1 = 1 ∧ 0 = 0 ∧ 0 = 0) && varB nm) = true; rw [h]; rfl
theorem val_pSend : ∀ (f : Nat) (a : E) (nm : ByteArray) (n : Nat), VE a n → varB nm = true → Res (pSend f a nm) (fun s m => VS s (1 + n + m))
 | 0, a, nm, n, _, _ => (Res.bad _).cong fun ts => by rw [pSend]
 | f + 1, a, nm, n, ha, hn => by
   refine Res.cong (pSend_s f a nm) (Res.ite (p := fun ts => (word 2 ts).bind fun m r => pSend f (fld nm a) m r) ((res_word 2).bind fun m k hk => (val_pSend f (fld nm a) m _ (ve_fld hn ha) (hk.2.1 rfl)).mono fun _ j hj => hj.le (by omega)) ((val_all f).pA.bind fun l m hl => Res.ok _ ((vs_plain (vl_cons ha hl) ?_).le (by omega))))
   show (decide (1 ≤ (a :: l).length ∧ 0 = 0 ∧ 0 = 0) && varB nm) = true
   rw [hn, decide_eq_true ⟨by simp, rfl, rfl⟩]
   rfl
theorem val_pSet (f : Nat) {k : Int} (hk : k = 0 ∨ k = 1) : Res (pSet f k) (fun s n => VS s n) :=
 ((res_word 2).bind fun nm n hn => (res_expect [61]).bind fun _ m hm => ((val_all f).pE 0).bind fun e j he => Res.ok _ ((vs_plain (vl_one he) (okS_named hk (hn.2.1 rfl))).le (by omega))).cong fun _ => rfl
theorem val_store (f : Nat) : Res (fun ts => (pO (f + 1) ts).bind fun a r => (expect [46] r).bind fun _ r => (word 2 r).bind fun n r => (expect [61] r).bind fun _ r => (pE f 0 r).bind fun b r => (.ok (.mk 2 n [a, b] [] []) r : R S)) (fun s n => VS s n) :=
 (val_all (f + 1)).pO.bind fun a n ha => (res_expect [46]).bind fun _ _ _ => (res_word 2).bind fun nm m hn => (res_expect [61]).bind fun _ _ _ => ((val_all f).pE 0).bind fun b j hb => Res.ok _ ((vs_plain (vl_two ha hb) (by
  show (decide (2 = 2 ∧ 0 = 0 ∧ 0 = 0) && varB nm) = true
  rw [hn.2.1 rfl]
  rfl)).le (by omega))
theorem val_last (f : Nat) : Res (fun ts => if (ts.headD default).kind = 2 ∧ is [61] ts.tail = true then pSet f 1 ts else (pO (f + 1) ts).bind fun a r => (expect [46] r).bind fun _ r => (word 2 r).bind fun n r => (expect [61] r).bind fun _ r => (pE f 0 r).bind fun b r => (.ok (.mk 2 n [a, b] [] []) r : R S)) (fun s n => VS s n) := by
 intro ts hg
 have h1 := val_pSet f (k := 1) (.inr rfl) ts hg
 have h2 := val_store f ts hg
 by_cases hc : (ts.headD default).kind = 2 ∧ is [61] ts.tail = true
 ·have e : (if (ts.headD default).kind = 2 ∧ is [61] ts.tail = true then pSet f 1 ts else (pO (f + 1) ts).bind fun a r => (expect [46] r).bind fun _ r => (word 2 r).bind fun n r => (expect [61] r).bind fun _ r => (pE f 0 r).bind fun b r => (.ok (.mk 2 n [a, b] [] []) r : R S)) = pSet f 1 ts := if_pos hc
  dsimp only
  rw [e]
  exact h1
 ·have e : (if (ts.headD default).kind = 2 ∧ is [61] ts.tail = true then pSet f 1 ts else (pO (f + 1) ts).bind fun a r => (expect [46] r).bind fun _ r => (word 2 r).bind fun n r => (expect [61] r).bind fun _ r => (pE f 0 r).bind fun b r => (.ok (.mk 2 n [a, b] [] []) r : R S)) = (pO (f + 1) ts).bind fun a r => (expect [46] r).bind fun _ r => (word 2 r).bind fun n r => (expect [61] r).bind fun _ r => (pE f 0 r).bind fun b r => (.ok (.mk 2 n [a, b] [] []) r : R S) := if_neg hc
  dsimp only
  rw [e]
  exact h2
theorem val_pSimple (f : Nat) : Res (pSimple f) (fun s n => VS s n) := by
 have e0 := (val_all f).pE 0
 have h1 : Res (fun ts => (pE f 0 ts).bind fun e r => (.ok (.mk 6 ⟨#[]⟩ [e] [] []) r : R S)) (fun s n => VS s (1 + n)) := e0.bind fun _ _ he => Res.ok _ (vs_plain (vl_one he) rfl)
 have h2 : Res (fun ts => (pE f 0 ts).bind fun a r => (expect [116, 111] r).bind fun _ r => (pE f 0 r).bind fun b r => (.ok (.mk 7 ⟨#[]⟩ [a, b] [] []) r : R S)) (fun s n => VS s (1 + n)) :=
  e0.bind fun _ _ ha => (res_expect [116, 111]).bind fun _ _ _ => e0.bind fun _ _ hb => Res.ok _ ((vs_plain (vl_two ha hb) rfl).le (by omega))
 have h3 : Res (fun ts => (pE f 0 ts).bind fun a r => (expect [98, 121] r).bind fun _ r => (word 2 r).bind fun n r => (expect [40] r).bind fun _ r => (pE f 0 r).bind fun b r => (expect [41] r).bind fun _ r => (.ok (.mk 8 n [a, b] [] []) r : R S)) (fun s n => VS s (1 + n)) :=
  e0.bind fun _ _ ha => (res_expect [98, 121]).bind fun _ _ _ => (res_word 2).bind fun nm _ hn => (res_expect [40]).bind fun _ _ _ => e0.bind fun _ _ hb => (res_expect [41]).bind fun _ _ _ => Res.ok _ ((vs_plain (vl_two ha hb) (by
   show (decide (2 = 2 ∧ 0 = 0 ∧ 0 = 0) && varB nm) = true
   rw [hn.2.1 rfl]
   rfl)).le (by omega))
 have h4 : Res (fun ts => (pO f ts).bind fun a r => (expect [46] r).bind fun _ r => (word 2 r).bind fun n r => pSend f a n r) (fun s n => VS s (1 + n)) :=
  (val_all f).pO.bind fun a n ha => (res_expect [46]).bind fun _ _ _ => (res_word 2).bind fun nm _ hn => (val_pSend f a nm n ha (hn.2.1 rfl)).mono fun _ _ h => h.le (by omega)
 have h5 : Res (fun ts => (.ok (.mk 9 ⟨#[]⟩ [] [] []) ts : R S)) (fun s n => VS s (1 + n)) := Res.ok _ (vs_plain vl_nil rfl)
 exact (Res.ite (t := [108, 101, 116]) ((val_pSet f (.inl rfl)).mono fun _ _ h => h.le (by omega)) (Res.ite (t := [115, 101, 110, 100]) h4 (Res.ite (t := [112, 114, 105, 110, 116]) h1 (Res.ite (t := [109, 111, 118, 101]) h2 (Res.ite (t := [119, 97, 116, 99, 104]) h3 (Res.ite (t := [114, 101, 116, 117, 114, 110]) (p := fun ts => (.ok (.mk 9 ⟨#[]⟩ [] [] []) ts : R S)) h5 (val_last f))))))).cong fun _ => rfl
theorem val_S : ∀ f, Res (pS f) VS ∧ Res (pB f) VSs ∧ ∀ l n, VSs l n → Res (pSs f l) (fun l m => VSs l (n + m))
 | 0 => ⟨(Res.bad _).cong fun ts => by rw [pS], (Res.bad _).cong fun ts => by rw [pB], fun _ _ _ => (Res.bad _).cong fun ts => by rw [pSs]⟩
 | f + 1 => by
   obtain ⟨hS, hB, hL⟩ := val_S f
   have e0 := (val_all f).pE 0
   refine ⟨?_, Res.cong (pB_s f) ((res_expect [123]).bind fun _ n _ => (hL [] 0 vss_nil).mono fun _ _ h => h.le (by omega)), fun l n hl => Res.cong (pSs_s f l) (Res.ite (p := fun ts => .ok l ts) (Res.ok l (hl.le (by omega))) (hS.bind fun s m hs => (hL _ _ (hl.snoc hs)).mono fun _ _ h => h.le (by omega)))⟩
   have hif : Res (fun ts => (pE f 0 ts).bind fun e r => (pB f r).bind fun b r => if is [101, 108, 115, 101] r then (pB f r.tail).bind fun l r => .ok (.mk 3 ⟨#[]⟩ [e] b l) r else (.ok (.mk 3 ⟨#[]⟩ [e] b []) r : R S)) (fun s n => VS s (1 + n)) :=
    e0.bind fun e _ he => hB.bind fun b _ hb => Res.ite (t := [101, 108, 115, 101]) (p := fun ts => (pB f ts).bind fun l r => (.ok (.mk 3 ⟨#[]⟩ [e] b l) r : R S)) (hB.bind fun _ _ hl => Res.ok _ ((vs_mk (vl_one he) hb hl rfl).le (by omega))) (Res.ok _ ((vs_mk (vl_one he) hb vss_nil rfl).le (by omega)))
   have hwh : Res (fun ts => (pE f 0 ts).bind fun e r => (pB f r).bind fun b r => (.ok (.mk 4 ⟨#[]⟩ [e] b []) r : R S)) (fun s n => VS s (1 + n)) := e0.bind fun _ _ he => hB.bind fun _ _ hb => Res.ok _ ((vs_mk (vl_one he) hb vss_nil rfl).le (by omega))
   have hsm : Res (fun ts => (pSimple f ts).bind fun s r => (expect [59] r).bind fun _ r => .ok s r) VS := (val_pSimple f).bind fun s _ hs => (res_expect [59]).bind fun _ _ _ => Res.ok s (hs.le (by omega))
   exact Res.cong (pS_s f) (Res.ite (t := [105, 102]) hif (Res.ite (t := [119, 104, 105, 108, 101]) hwh hsm))
def VN (l : List ByteArray) (n : Nat) : Prop := l.all varB = true ∧ l.length ≤ n
theorem VN.le {l : List ByteArray} {n m : Nat} (h : VN l n) (hm : n ≤ m) : VN l m := ⟨h.1, Nat.le_trans h.2 hm⟩
theorem VN.snoc {l : List ByteArray} {s : ByteArray} {n : Nat} (h : VN l n) (hs : varB s = true) : VN (l ++ [s]) (n + 1) := by
 refine ⟨?_, ?_⟩
 ·rw [List.all_append, h.1, List.all_cons, hs]; rfl
 ·rw [List.length_append]
  have := h.2
  show l.length + 1 ≤ n + 1
  omega
theorem vn_nil : VN [] 0 := ⟨rfl, Nat.le_refl _⟩
theorem val_fields : ∀ (f : Nat) (l : List ByteArray) (n : Nat), VN l n → Res (pFields f l) (fun l m => VN l (n + m))
 | 0, l, n, _ => (Res.bad _).cong fun ts => by rw [pFields]
 | f + 1, l, n, h => Res.cong (pFields_s f l) (Res.ite (p := fun ts => (word 2 ts).bind fun n r => (expect [59] r).bind fun _ r => pFields f (l ++ [n]) r) ((res_word 2).bind fun nm m hm => (res_expect [59]).bind fun _ _ _ => (val_fields f _ _ (h.snoc (hm.2.1 rfl))).mono fun _ _ h => h.le (by omega)) (Res.ok l h))
theorem val_param : ∀ (f : Nat) (l : List ByteArray) (n : Nat), VN l n → Res (pParam f l) (fun l m => VN l (n + m))
 | 0, l, n, _ => (Res.bad _).cong fun ts => by rw [pParam]
 | f + 1, l, n, h => Res.cong (pParam_s f l) (Res.ite (p := fun ts => (word 2 ts).bind fun n r => pParam f (l ++ [n]) r) ((res_word 2).bind fun nm m hm => (val_param f _ _ (h.snoc (hm.2.1 rfl))).mono fun _ _ h => h.le (by omega)) ((res_expect [41]).bind fun _ _ _ => Res.ok l (h.le (by omega))))
theorem val_params (f : Nat) : Res (pParams f) VN :=
 ((res_expect [40]).bind fun _ _ _ => Res.ite (p := fun r => .ok [] r) (Res.ok [] (vn_nil.le (by omega))) ((res_word 2).bind fun nm m hm => (val_param f [nm] 1 (vn_nil.snoc (hm.2.1 rfl))).mono fun _ _ h => h.le (by omega))).cong fun _ => rfl
def VMs (l : List M) (n : Nat) : Prop := (∀ m ∈ l, validM m = true) ∧ (l.map Sy.sizeM).sum ≤ n
theorem VMs.le {l : List M} {n m : Nat} (h : VMs l n) (hm : n ≤ m) : VMs l m := ⟨h.1, Nat.le_trans h.2 hm⟩
theorem VMs.snoc {l : List M} {x : M} {n m : Nat} (h : VMs l n) (hx : validM x = true) (hs : Sy.sizeM x ≤ m) : VMs (l ++ [x]) (n + m) := by
 refine ⟨fun y hy => ?_, ?_⟩
 ·rcases List.mem_append.1 hy with hy | hy
  ·exact h.1 y hy
  ·obtain rfl := List.mem_singleton.1 hy; exact hx
 ·rw [List.map_append, List.sum_append, List.map_cons, List.map_nil, List.sum_cons, List.sum_nil]
  have := h.2
  omega
theorem valid_method {nm : ByteArray} {p : List ByteArray} {b : List S} {k j : Nat} (hn : varB nm = true) (hp : VN p k) (hb : VSs b j) : validM ⟨nm, p, b⟩ = true ∧ Sy.sizeM ⟨nm, p, b⟩ ≤ 1 + k + j := by
 refine ⟨?_, ?_⟩
 ·show (varB nm && p.all varB && validSs b) = true
  rw [hn, hp.1, hb.1]
  rfl
 ·have h1 := hp.2
  have h2 := hb.2
  show 1 + p.length + Sy.sizeSs b ≤ 1 + k + j
  omega
theorem val_method1 (f : Nat) (ih : ∀ (l : List M) (n : Nat), VMs l n → Res (pMs f l) (fun l m => VMs l (n + m))) (l : List M) (n : Nat) (h : VMs l n) : Res (fun ts => (word 2 ts).bind fun n r => (pParams f r).bind fun p r => (pB f r).bind fun b r => pMs f (l ++ [⟨n, p, b⟩]) r) (fun l m => VMs l (n + (1 + m))) := by
 refine (res_word 2).bind fun nm m hm => ?_
 have hn := hm.2.1 rfl
 have hm1 := hm.1
 clear hm
 refine (val_params f).bind fun p k hp => ?_
 refine (val_S f).2.1.bind fun b j hb => ?_
 obtain ⟨hx, hz⟩ := valid_method hn hp hb
 exact (ih _ _ (h.snoc hx hz)).mono fun _ _ h => h.le (by omega)
theorem val_methods : ∀ (f : Nat) (l : List M) (n : Nat), VMs l n → Res (pMs f l) (fun l m => VMs l (n + m)) := by
 intro f
 induction f with
 | zero => exact fun l n _ => Res.cong (fun ts => by rw [pMs]) (Res.bad _)
 | succ f ih =>
   intro l n h
   have h1 := val_method1 f ih l n h
   have h2 : Res (fun ts => .ok l ts) (fun l m => VMs l (n + m)) := Res.ok l h
   obtain ⟨q, hq⟩ : ∃ q : Toks → R (List M), q = fun ts => (word 2 ts).bind fun n r => (pParams f r).bind fun p r => (pB f r).bind fun b r => pMs f (l ++ [⟨n, p, b⟩]) r := ⟨_, rfl⟩
   rw [← hq] at h1
   have h3 : Res (fun ts => if is [111, 110] ts then q ts.tail else .ok l ts) (fun l m => VMs l (n + m)) := Res.ite h1 h2
   refine Res.cong (fun ts => ?_) h3
   rw [pMs_s, hq]
def VC (c : C) (n : Nat) : Prop := validC c = true ∧ Sy.sizeC c ≤ n
theorem val_pC' (f : Nat) (ac : Bool) : Res (pC' f ac) VC := by
 have hm : Res (fun r => if ac then pMs f [] r else .ok [] r) (fun l n => VMs l n ∧ (ac = true ∨ l = [])) := by
  cases ac with
  | true => exact ((val_methods f [] 0 ⟨by simp, Nat.le_refl _⟩).mono fun _ n h => ⟨h.le (by omega), .inl rfl⟩).cong fun _ => rfl
  | false => exact (Res.ok [] ⟨⟨by simp, Nat.le_refl _⟩, .inr rfl⟩).cong fun _ => rfl
 refine (res_word 3).bind fun nm n hn => (res_expect [123]).bind fun _ _ _ => (val_fields f [] 0 vn_nil).bind fun fs k hf => hm.bind fun ms j hms => (res_expect [125]).bind fun _ _ _ => Res.ok _ ⟨?_, ?_⟩
 ·rw [validC]
  show (clsB nm && fs.all varB && (ac || decide (ms.length = 0)) && ms.all validM) = true
  rw [hn.2.2 rfl, hf.1, (List.all_eq_true).2 hms.1.1]
  rcases hms.2 with rfl | rfl
  ·rfl
  ·simp
 ·unfold Sy.sizeC
  have := hf.2
  have := hms.1.2
  show 1 + fs.length + (ms.map Sy.sizeM).sum ≤ _
  omega
theorem val_pC (f : Nat) : Res (pC f) VC := Res.cong (pC_eq f) (Res.ite ((val_pC' f true).mono fun _ _ h => ⟨h.1, Nat.le_trans h.2 (by omega)⟩) ((res_expect [114, 101, 99, 111, 114, 100]).bind fun _ _ _ => (val_pC' f false).mono fun _ _ h => ⟨h.1, Nat.le_trans h.2 (by omega)⟩))
def VP (l : List C) (n : Nat) : Prop := validP l = true ∧ Sy.sizeP l ≤ n
theorem VP.snoc {l : List C} {x : C} {n m : Nat} (h : VP l n) (hx : VC x m) : VP (l ++ [x]) (n + m) := by
 refine ⟨?_, ?_⟩
 ·have := h.1
  unfold validP at this ⊢
  rw [List.all_append, this, List.all_cons, hx.1]
  rfl
 ·have h1 := h.2
  have h2 := hx.2
  unfold Sy.sizeP at h1 ⊢
  rw [List.map_append, List.sum_append, List.map_cons, List.map_nil, List.sum_cons, List.sum_nil]
  omega
theorem val_prog : ∀ (f : Nat) (l : List C) (n : Nat), VP l n → Res (pP f l) (fun l m => VP l (n + m))
 | 0, l, n, _ => (Res.bad _).cong fun ts => by rw [pP]
 | f + 1, l, n, h => by
   have hb : Res (fun ts => (pC f ts).bind fun c r => pP f (l ++ [c]) r) (fun l m => VP l (n + m)) := (val_pC f).bind fun c m hc => (val_prog f _ _ (h.snoc hc)).mono fun _ _ h => ⟨h.1, Nat.le_trans h.2 (by omega)⟩
   intro ts hg
   rw [pP_s]
   by_cases hk : (ts.headD default).kind = 0
   ·rw [if_pos hk]; exact Res.ok (P := fun l m => VP l (n + m)) l h ts hg
   ·rw [if_neg hk]; exact hb ts hg
end Pa
end Go.Proofs.YtdckddkalgnlpaaGreatDoor
