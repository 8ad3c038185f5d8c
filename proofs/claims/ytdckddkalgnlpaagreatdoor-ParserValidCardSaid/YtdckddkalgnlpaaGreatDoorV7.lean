/-
  Several texts in one: PaRt, SySpoil, PaRtB, PaRtC.
-/
import Derived.Test.YtdckddkalgnlpaaGreatDoorV4
import Derived.Test.YtdckddkalgnlpaaGreatDoorV6
namespace Go.Proofs.YtdckddkalgnlpaaGreatDoor
namespace Pa
open Tr
def kw (t : Bytes) : B := ⟨4, t, 0⟩
def sy (t : Bytes) : B := ⟨5, t, 0⟩
def nmT (t : Bytes) : B := ⟨2, t, 0⟩
def clT (t : Bytes) : B := ⟨3, t, 0⟩
def opT (o : Int) : B := if o = 11 ∨ o = 12 then kw (Sy.sym o) else sy (Sy.sym o)
def parT (req : Nat) (x : Nat × Toks) : Toks := if x.1 < req then sy [40] :: (x.2 ++ [sy [41]]) else x.2
def commasT : List Toks → Toks
 | [] => []
 | [x] => x
 | x :: y :: r => x ++ sy [44] :: commasT (y :: r)
def nodeT (k o i : Int) (nm : Bytes) (a : Bool) (ts : List (Nat × Toks)) : Toks :=
 if k = 0 then [⟨1, dec i.toNat, i.toNat⟩]
 else if k = 1 then [kw [110, 105, 108]]
 else if k = 2 then [kw [116, 104, 105, 115]]
 else if k = 3 then [nmT nm]
 else if k = 4 then parT 8 (ts.headD (9, [])) ++ [sy [46], nmT nm]
 else if k = 5 then
  if a then kw [110, 101, 119] :: clT nm :: sy [40] :: (commasT (ts.dropLast.map Prod.snd) ++ sy [41] :: kw [97, 116] :: parT 7 (ts.getLastD (9, [])))
  else kw [110, 101, 119] :: clT nm :: sy [40] :: (commasT (ts.map Prod.snd) ++ [sy [41]])
 else if k = 6 then kw [119, 101, 97, 107] :: parT 7 (ts.headD (9, []))
 else if k = 7 then kw [103, 101, 116] :: parT 7 (ts.headD (9, []))
 else if k = 8 then sy [45] :: parT 7 (ts.headD (9, []))
 else if k = 9 then kw [110, 111, 116] :: parT 3 (ts.headD (9, []))
 else parT (if Sy.opLevel o = 4 then 5 else Sy.opLevel o) (ts.headD (9, [])) ++ opT o :: parT (Sy.opLevel o + 1) ((ts.drop 1).headD (9, []))
mutual
def toks : E → Toks
 | .mk k o i nm a l => nodeT k o i nm.data.toList a (tokss l)
def tokss : List E → List (Nat × Toks)
 | [] => []
 | e :: r => (Sy.level e, toks e) :: tokss r
end
theorem tokss_map : ∀ l : List E, tokss l = l.map fun e => (Sy.level e, toks e)
 | [] => by rw [tokss]; rfl
 | e :: r => by rw [tokss, tokss_map r]; rfl
def argT (req : Nat) (e : E) : Toks := parT req (Sy.level e, toks e)
section
variable {α β : Type}
def Ok (p : Nat → R α) (a : α) (r : Toks) : Prop := ∃ F, ∀ f, F ≤ f → p f = .ok a r
def Reach (p q : Nat → R α) : Prop := ∃ F D, ∀ f, F ≤ f → ∃ g, f ≤ g + D ∧ p f = q g
theorem Ok.pure (a : α) (r : Toks) : Ok (fun _ => .ok a r) a r := ⟨0, fun _ _ => rfl⟩
theorem Ok.bind {p : Nat → R α} {q : Nat → α → Toks → R β} {a : α} {r r2 : Toks} {b : β} (h : Ok p a r) (h2 : Ok (fun f => q f a r) b r2) : Ok (fun f => (p f).bind (q f)) b r2 := by
 obtain ⟨F, h⟩ := h
 obtain ⟨G, h2⟩ := h2
 refine ⟨F + G, fun f hf => ?_⟩
 show (p f).bind (q f) = _
 rw [h f (by omega)]
 exact h2 f (by omega)
theorem Ok.step {P body : Nat → R α} {a : α} {r : Toks} (h : ∀ f, P (f + 1) = body f) (hb : Ok body a r) : Ok P a r := by
 obtain ⟨F, hb⟩ := hb
 refine ⟨F + 1, fun f hf => ?_⟩
 obtain ⟨g, rfl⟩ : ∃ g, f = g + 1 := ⟨f - 1, by omega⟩
 rw [h, hb g (by omega)]
theorem Reach.ok {p q : Nat → R α} {a : α} {r : Toks} (h : Reach p q) (h2 : Ok q a r) : Ok p a r := by
 obtain ⟨F, D, h⟩ := h
 obtain ⟨G, h2⟩ := h2
 refine ⟨F + G + D, fun f hf => ?_⟩
 obtain ⟨g, hg, e⟩ := h f (by omega)
 rw [e, h2 g (by omega)]
theorem Reach.trans {p q s : Nat → R α} (h : Reach p q) (h2 : Reach q s) : Reach p s := by
 obtain ⟨F, D, h⟩ := h
 obtain ⟨G, D2, h2⟩ := h2
 refine ⟨F + G + D, D + D2, fun f hf => ?_⟩
 obtain ⟨g, hg, e⟩ := h f (by omega)
 obtain ⟨g2, hg2, e2⟩ := h2 g (by omega)
 exact ⟨g2, by omega, e.trans e2⟩
theorem Reach.step {P q : Nat → R α} (h : ∀ f, P (f + 1) = q f) : Reach P q := ⟨1, 1, fun f hf => ⟨f - 1, by omega, by
 obtain ⟨g, rfl⟩ : ∃ g, f = g + 1 := ⟨f - 1, by omega⟩
 rw [h]; rfl⟩⟩
theorem Reach.bind {p : Nat → R β} {q : Nat → β → Toks → R α} {b : β} {r : Toks} (h : Ok p b r) : Reach (fun f => (p f).bind (q f)) (fun f => q f b r) := by
 obtain ⟨F, h⟩ := h
 refine ⟨F, 0, fun f hf => ⟨f, Nat.le_refl _, ?_⟩⟩
 show (p f).bind (q f) = _
 rw [h f hf]
 rfl
end
theorem is_cons (t : Bytes) (x : B) (r : Toks) : is t (x :: r) = (x.text == t && (x.kind == 4 || x.kind == 5)) := rfl
theorem is_app {t : Bytes} {a : Toks} (b : Toks) (h : a ≠ []) : is t (a ++ b) = is t a := by
 cases a with
 | nil => exact absurd rfl h
 | cons x r => rfl
def Stop (lv : Nat) (r : Toks) : Prop := is [46] r = false ∧ is [97, 116] r = false ∧ ∀ o : Int, 0 ≤ o → o ≤ 12 → lv + 1 ≤ Sy.opLevel o → is (Sy.sym o) r = false
theorem Stop.mono {a b : Nat} {r : Toks} (h : Stop a r) (hab : a ≤ b) : Stop b r := ⟨h.1, h.2.1, fun o h0 h1 h2 => h.2.2 o h0 h1 (by omega)⟩
theorem opOf_none {lv : Nat} {r : Toks} (h : Stop lv r) {ops : List Int} (ho : ∀ o ∈ ops, 0 ≤ o ∧ o ≤ 12 ∧ lv + 1 ≤ Sy.opLevel o) : opOf ops r = none := by
 unfold opOf
 rw [List.find?_eq_none]
 intro o hm
 obtain ⟨a, b, c⟩ := ho o hm
 rw [h.2.2 o a b c]
 exact Bool.false_ne_true
theorem sym_inj : ∀ o p : Int, 0 ≤ o → o ≤ 12 → 0 ≤ p → p ≤ 12 → Sy.sym o = Sy.sym p → o = p := by
 intro o p h0 h1 h2 h3 h
 have hc : ∀ x : Int, 0 ≤ x → x ≤ 12 → x = 0 ∨ x = 1 ∨ x = 2 ∨ x = 3 ∨ x = 4 ∨ x = 5 ∨ x = 6 ∨ x = 7 ∨ x = 8 ∨ x = 9 ∨ x = 10 ∨ x = 11 ∨ x = 12 := fun x _ _ => by omega
 rcases hc o h0 h1 with rfl | rfl | rfl | rfl | rfl | rfl | rfl | rfl | rfl | rfl | rfl | rfl | rfl <;> rcases hc p h2 h3 with rfl | rfl | rfl | rfl | rfl | rfl | rfl | rfl | rfl | rfl | rfl | rfl | rfl <;> first | rfl | (exfalso; revert h; decide)
theorem opT_text (o : Int) : (opT o).text = Sy.sym o := by unfold opT; split <;> rfl
theorem opT_is (t : Bytes) (o : Int) (r : Toks) : is t (opT o :: r) = (Sy.sym o == t) := by
 rw [is_cons, opT_text]
 unfold opT
 split <;> simp [kw, sy]
theorem opOf_some {o : Int} (h0 : 0 ≤ o) (h1 : o ≤ 12) {ops : List Int} (ho : ∀ p ∈ ops, 0 ≤ p ∧ p ≤ 12) (hm : o ∈ ops) (r : Toks) : opOf ops (opT o :: r) = some o := by
 unfold opOf
 cases hf : ops.find? fun o' => is (Sy.sym o') (opT o :: r) with
 | none =>
   rw [List.find?_eq_none] at hf
   exact absurd (by rw [opT_is]; exact beq_self_eq_true _) (hf o hm)
 | some p =>
   have h2 := List.find?_some hf
   have h3 := List.mem_of_find?_eq_some hf
   rw [opT_is, beq_iff_eq] at h2
   obtain ⟨a, b⟩ := ho p h3
   rw [sym_inj o p h0 h1 a b h2]
theorem sym_ne (o : Int) (h0 : 0 ≤ o) (h1 : o ≤ 12) : Sy.sym o ≠ [46] ∧ Sy.sym o ≠ [97, 116] := by
 have hc : o = 0 ∨ o = 1 ∨ o = 2 ∨ o = 3 ∨ o = 4 ∨ o = 5 ∨ o = 6 ∨ o = 7 ∨ o = 8 ∨ o = 9 ∨ o = 10 ∨ o = 11 ∨ o = 12 := by omega
 rcases hc with rfl | rfl | rfl | rfl | rfl | rfl | rfl | rfl | rfl | rfl | rfl | rfl | rfl <;> decide
theorem stop_op {o : Int} (h0 : 0 ≤ o) (h1 : o ≤ 12) {L : Nat} (hL : Sy.opLevel o ≤ L) (r : Toks) : Stop L (opT o :: r) := by
 refine ⟨?_, ?_, fun p a b c => ?_⟩
 ·rw [opT_is]
  exact beq_eq_false_iff_ne.2 (sym_ne o h0 h1).1
 ·rw [opT_is]
  exact beq_eq_false_iff_ne.2 (sym_ne o h0 h1).2
 ·rw [opT_is]
  refine beq_eq_false_iff_ne.2 fun e => ?_
  have := sym_inj o p h0 h1 a b e
  subst this
  omega
theorem stop_sym (x : B) (r : Toks) (h : x.text ∉ [[46], [97, 116], [43], [45], [42], [47], [37], [61, 61], [33, 61], [60], [60, 61], [62], [62, 61], [97, 110, 100], [111, 114]]) : Stop 0 (x :: r) := by
 have key : ∀ t : Bytes, t ∈ [[46], [97, 116], [43], [45], [42], [47], [37], [61, 61], [33, 61], [60], [60, 61], [62], [62, 61], [97, 110, 100], [111, 114]] → is t (x :: r) = false := fun t ht => by
  rw [is_cons, show (x.text == t) = false from beq_eq_false_iff_ne.2 fun e => h (e ▸ ht), Bool.false_and]
 refine ⟨key _ (by simp), key _ (by simp), fun o h0 h1 _ => key _ ?_⟩
 have hc : o = 0 ∨ o = 1 ∨ o = 2 ∨ o = 3 ∨ o = 4 ∨ o = 5 ∨ o = 6 ∨ o = 7 ∨ o = 8 ∨ o = 9 ∨ o = 10 ∨ o = 11 ∨ o = 12 := by omega
 rcases hc with rfl | rfl | rfl | rfl | rfl | rfl | rfl | rfl | rfl | rfl | rfl | rfl | rfl <;> decide
theorem pE_0 (f : Nat) (ts : Toks) : pE (f + 1) 0 ts = (pE f 1 ts).bind fun a r => pL f 1 [12] a r := by rw [pE]; rfl
theorem pE_1 (f : Nat) (ts : Toks) : pE (f + 1) 1 ts = (pE f 2 ts).bind fun a r => pL f 2 [11] a r := by rw [pE]; rfl
theorem pE_2 (f : Nat) (ts : Toks) : pE (f + 1) 2 ts = if is [110, 111, 116] ts then (pE f 2 ts.tail).bind fun a r => .ok (un 9 a) r else pE f 3 ts := by rw [pE]; rfl
theorem pE_3 (f : Nat) (ts : Toks) : pE (f + 1) 3 ts = (pE f 4 ts).bind fun a r => match opOf [5, 6, 7, 8, 9, 10] r with | some o => (pE f 4 r.tail).bind fun b r => .ok (bin o a b) r | none => .ok a r := by rw [pE]; rfl
theorem pE_4 (f : Nat) (ts : Toks) : pE (f + 1) 4 ts = (pE f 5 ts).bind fun a r => pL f 5 [0, 1] a r := by rw [pE]; rfl
theorem pE_5 (f : Nat) (ts : Toks) : pE (f + 1) 5 ts = (pE f 6 ts).bind fun a r => pL f 6 [2, 3, 4] a r := by rw [pE]; rfl
theorem pE_6 (f : Nat) (ts : Toks) : pE (f + 1) 6 ts = if is [45] ts then (pE f 6 ts.tail).bind fun a r => .ok (un 8 a) r else if is [119, 101, 97, 107] ts then (pE f 6 ts.tail).bind fun a r => .ok (un 6 a) r else if is [103, 101, 116] ts then (pE f 6 ts.tail).bind fun a r => .ok (un 7 a) r else pE f 7 ts := by rw [pE]; rfl
theorem pE_7 (f : Nat) (ts : Toks) : pE (f + 1) 7 ts = (pO f ts).bind fun a r => pF f a r := by rw [pE]; rfl
theorem pL_s (f lv : Nat) (ops : List Int) (a : E) (ts : Toks) : pL (f + 1) lv ops a ts = match opOf ops ts with | some o => (pE f lv ts.tail).bind fun b r => pL f lv ops (bin o a b) r | none => .ok a ts := by rw [pL]; cases opOf ops ts <;> rfl
theorem pF_s (f : Nat) (a : E) (ts : Toks) : pF (f + 1) a ts = if is [46] ts then (word 2 ts.tail).bind fun n r => pF f (fld n a) r else .ok a ts := by rw [pF]
theorem pL_stop {lv k : Nat} {ops : List Int} {r : Toks} (a : E) (h : Stop k r) (ho : ∀ o ∈ ops, 0 ≤ o ∧ o ≤ 12 ∧ k + 1 ≤ Sy.opLevel o) : Ok (fun f => pL f lv ops a r) a r :=
 .step (fun f => pL_s f lv ops a r) (by rw [opOf_none h ho]; exact .pure a r)
theorem pF_stop {r : Toks} (a : E) (h : is [46] r = false) : Ok (fun f => pF f a r) a r :=
 .step (fun f => pF_s f a r) (by rw [h]; exact .pure a r)
theorem ops_1 : ∀ o ∈ ([12] : List Int), 0 ≤ o ∧ o ≤ 12 ∧ 0 + 1 ≤ Sy.opLevel o := by decide
theorem ops_2 : ∀ o ∈ ([11] : List Int), 0 ≤ o ∧ o ≤ 12 ∧ 1 + 1 ≤ Sy.opLevel o := by decide
theorem ops_4 : ∀ o ∈ ([5, 6, 7, 8, 9, 10] : List Int), 0 ≤ o ∧ o ≤ 12 ∧ 3 + 1 ≤ Sy.opLevel o := by decide
theorem ops_5 : ∀ o ∈ ([0, 1] : List Int), 0 ≤ o ∧ o ≤ 12 ∧ 4 + 1 ≤ Sy.opLevel o := by decide
theorem ops_6 : ∀ o ∈ ([2, 3, 4] : List Int), 0 ≤ o ∧ o ≤ 12 ∧ 5 + 1 ≤ Sy.opLevel o := by decide
def NoPre (lo hi : Nat) (ts : Toks) : Prop := (lo ≤ 2 → 2 < hi → is [110, 111, 116] ts = false) ∧ (lo ≤ 6 → 6 < hi → is [45] ts = false ∧ is [119, 101, 97, 107] ts = false ∧ is [103, 101, 116] ts = false)
theorem climb1 {lv : Nat} {ts r : Toks} {a : E} (hlv : lv < 7) (h : Ok (fun f => pE f (lv + 1) ts) a r) (hs : Stop lv r) (hp : NoPre lv (lv + 1) ts) : Ok (fun f => pE f lv ts) a r := by
 have hc : lv = 0 ∨ lv = 1 ∨ lv = 2 ∨ lv = 3 ∨ lv = 4 ∨ lv = 5 ∨ lv = 6 := by omega
 rcases hc with rfl | rfl | rfl | rfl | rfl | rfl | rfl
 ·exact .step (fun f => pE_0 f ts) (.bind h (pL_stop a hs ops_1))
 ·exact .step (fun f => pE_1 f ts) (.bind h (pL_stop a hs ops_2))
 ·refine .step (fun f => pE_2 f ts) ?_
  rw [hp.1 (by omega) (by omega)]
  exact h
 ·refine .step (fun f => pE_3 f ts) (.bind h ?_)
  rw [opOf_none hs ops_4]
  exact .pure a r
 ·exact .step (fun f => pE_4 f ts) (.bind h (pL_stop a hs ops_5))
 ·exact .step (fun f => pE_5 f ts) (.bind h (pL_stop a hs ops_6))
 ·refine .step (fun f => pE_6 f ts) ?_
  obtain ⟨x, y, z⟩ := hp.2 (by omega) (by omega)
  rw [x, y, z]
  exact h
theorem climb {ts r : Toks} {a : E} : ∀ (d lv : Nat), lv + d ≤ 7 → Ok (fun f => pE f (lv + d) ts) a r → Stop lv r → NoPre lv (lv + d) ts → Ok (fun f => pE f lv ts) a r
 | 0, _, _, h, _, _ => h
 | d + 1, lv, hd, h, hs, hp => by
   refine climb1 (by omega) (climb d (lv + 1) (by omega) (by rw [show lv + 1 + d = lv + (d + 1) by omega]; exact h) (hs.mono (by omega)) ⟨fun a b => hp.1 (by omega) (by omega), fun a b => hp.2 (by omega) (by omega)⟩) hs ⟨fun a b => hp.1 (by omega) (by omega), fun a b => hp.2 (by omega) (by omega)⟩
theorem climb' {ts r : Toks} {a : E} {lv hi : Nat} (h1 : lv ≤ hi) (h2 : hi ≤ 7) (h : Ok (fun f => pE f hi ts) a r) (hs : Stop lv r) (hp : NoPre lv hi ts) : Ok (fun f => pE f lv ts) a r := by
 obtain ⟨d, rfl⟩ : ∃ d, hi = lv + d := ⟨hi - lv, by omega⟩
 exact climb d lv h2 h hs hp
end Pa
end Go.Proofs.YtdckddkalgnlpaaGreatDoor
namespace Go.Proofs.YtdckddkalgnlpaaGreatDoor
namespace Sy
open Tr
theorem okE_name3 {o i : Int} {nm : ByteArray} {a : Bool} {n : Nat} (h : okE 3 o i nm a n = true) : varB nm = true := by
 unfold okE at h
 rw [Bool.and_eq_true] at h
 have h2 := h.2
 rw [if_neg (by decide), if_neg (by decide), if_neg (by decide), if_pos rfl, Bool.and_eq_true] at h2
 exact h2.2
theorem okE_name4 {o i : Int} {nm : ByteArray} {a : Bool} {n : Nat} (h : okE 4 o i nm a n = true) : varB nm = true := by
 unfold okE at h
 rw [Bool.and_eq_true] at h
 have h2 := h.2
 rw [if_neg (by decide), if_neg (by decide), if_neg (by decide), if_neg (by decide), if_pos rfl, Bool.and_eq_true] at h2
 exact h2.2
theorem okE_name5 {o i : Int} {nm : ByteArray} {a : Bool} {n : Nat} (h : okE 5 o i nm a n = true) : clsB nm = true := by
 unfold okE at h
 rw [Bool.and_eq_true] at h
 have h2 := h.2
 rw [if_neg (by decide), if_neg (by decide), if_neg (by decide), if_neg (by decide), if_neg (by decide), if_pos rfl, Bool.and_eq_true] at h2
 exact h2.1
theorem one_of {α : Type} {l : List α} (h : l.length = 1) : ∃ x, l = [x] := by
 match l, h with
 | [x], _ => exact ⟨x, rfl⟩
theorem two_of {α : Type} {l : List α} (h : l.length = 2) : ∃ x y, l = [x, y] := by
 match l, h with
 | [x, y], _ => exact ⟨x, y, rfl⟩
theorem okE_zero {k o i : Int} {nm : ByteArray} {a : Bool} {n : Nat} (h : okE k o i nm a n = true) : (k ≠ 0 → i = 0) ∧ (k ≠ 10 → o = 0) ∧ (k ≠ 5 → a = false) := by
 unfold okE at h
 rw [Bool.and_eq_true, Bool.not_eq_true', Bool.or_eq_false_iff, Bool.or_eq_false_iff, decide_eq_false_iff_not, decide_eq_false_iff_not, Bool.and_eq_false_iff, decide_eq_false_iff_not] at h
 obtain ⟨⟨⟨h1, h2⟩, h3⟩, _⟩ := h
 refine ⟨fun e => by omega, fun e => by omega, fun e => ?_⟩
 rcases h3 with h3 | h3
 ·exact absurd e h3
 ·exact h3
end Sy
end Go.Proofs.YtdckddkalgnlpaaGreatDoor
namespace Go.Proofs.YtdckddkalgnlpaaGreatDoor
namespace Pa
open Tr
inductive Form : E → Prop
 | num (n : Nat) (h : n ≤ 2305843009213693951) : Form (num n)
 | nil : Form (leaf 1)
 | this : Form (leaf 2)
 | var (nm : ByteArray) (h : varB nm = true) : Form (var nm)
 | fld (nm : ByteArray) (x : E) (h : varB nm = true) (hx : validE x = true) : Form (fld nm x)
 | new (nm : ByteArray) (l : List E) (h : clsB nm = true) (hx : ∀ x ∈ l, validE x = true) : Form (new nm false l)
 | newAt (nm : ByteArray) (l : List E) (y : E) (h : clsB nm = true) (hx : ∀ x ∈ l, validE x = true) (hy : validE y = true) : Form (new nm true (l ++ [y]))
 | un (k : Int) (x : E) (hk : k = 6 ∨ k = 7 ∨ k = 8 ∨ k = 9) (hx : validE x = true) : Form (un k x)
 | bin (o : Int) (x y : E) (h0 : 0 ≤ o) (h1 : o ≤ 12) (hx : validE x = true) (hy : validE y = true) : Form (bin o x y)
theorem empty_of {nm : ByteArray} (h : nm.size = 0) : nm = ⟨#[]⟩ := by
 obtain ⟨d⟩ := nm
 have : d.size = 0 := h
 rw [Array.size_eq_zero_iff.1 this]
theorem okE_empty {k o i : Int} {nm : ByteArray} {a : Bool} {n : Nat} (h : okE k o i nm a n = true) (h3 : k ≠ 3) (h4 : k ≠ 4) (h5 : k ≠ 5) : nm.size = 0 := by
 have hk : 0 ≤ k ∧ k ≤ 10 := by have := okE_forms h; omega
 unfold okE at h
 rw [Bool.and_eq_true] at h
 have h2 := h.2
 have hc : k = 0 ∨ k = 1 ∨ k = 2 ∨ k = 6 ∨ k = 7 ∨ k = 8 ∨ k = 9 ∨ k = 10 := by omega
 rcases hc with rfl | rfl | rfl | rfl | rfl | rfl | rfl | rfl
 all_goals
  simp only [Int.reduceEq, if_true, if_false, decide_eq_true_eq] at h2
  first | exact h2.2.1 | exact h2.2
theorem form_of (e : E) (h : validE e = true) : Form e := by
 obtain ⟨k, o, i, nm, a, l⟩ := e
 rw [validE, Bool.and_eq_true, validEs_all, List.all_eq_true] at h
 obtain ⟨hl, hok⟩ := h
 obtain ⟨z1, z2, z3⟩ := Sy.okE_zero hok
 have hem := okE_empty hok
 rcases okE_forms hok with ⟨rfl, hn, h0, h1⟩ | ⟨rfl, hn⟩ | ⟨rfl, hn⟩ | ⟨rfl, hn⟩ | ⟨rfl, hn⟩ | ⟨rfl, ha⟩ | ⟨rfl, hn⟩ | ⟨rfl, hn⟩ | ⟨rfl, hn⟩ | ⟨rfl, hn⟩ | ⟨rfl, hn, h0, h1⟩
 ·obtain rfl := List.eq_nil_of_length_eq_zero hn
  obtain rfl := z2 (by decide)
  obtain rfl := z3 (by decide)
  obtain rfl := empty_of (hem (by decide) (by decide) (by decide))
  obtain ⟨n, rfl⟩ : ∃ n : Nat, i = n := ⟨i.toNat, by omega⟩
  exact .num n (by omega)
 ·obtain rfl := List.eq_nil_of_length_eq_zero hn
  obtain rfl := z1 (by decide)
  obtain rfl := z2 (by decide)
  obtain rfl := z3 (by decide)
  obtain rfl := empty_of (hem (by decide) (by decide) (by decide))
  exact .nil
 ·obtain rfl := List.eq_nil_of_length_eq_zero hn
  obtain rfl := z1 (by decide)
  obtain rfl := z2 (by decide)
  obtain rfl := z3 (by decide)
  obtain rfl := empty_of (hem (by decide) (by decide) (by decide))
  exact .this
 ·obtain rfl := List.eq_nil_of_length_eq_zero hn
  obtain rfl := z1 (by decide)
  obtain rfl := z2 (by decide)
  obtain rfl := z3 (by decide)
  exact .var nm (Sy.okE_name3 hok)
 ·obtain ⟨x, rfl⟩ := Sy.one_of hn
  obtain rfl := z1 (by decide)
  obtain rfl := z2 (by decide)
  obtain rfl := z3 (by decide)
  exact .fld nm x (Sy.okE_name4 hok) (hl x (by simp))
 ·obtain rfl := z1 (by decide)
  obtain rfl := z2 (by decide)
  have hnm := Sy.okE_name5 hok
  cases a with
  | false => exact .new nm l hnm hl
  | true =>
    have hp := ha rfl
    rcases List.eq_nil_or_concat l with rfl | ⟨r, y, rfl⟩
    ·simp at hp
    ·rw [List.concat_eq_append] at hl ⊢
     exact .newAt nm r y hnm (fun x hx => hl x (by simp [hx])) (hl y (by simp))
 all_goals
  try
   obtain ⟨x, rfl⟩ := Sy.one_of hn
   obtain rfl := z1 (by decide)
   obtain rfl := z2 (by decide)
   obtain rfl := z3 (by decide)
   obtain rfl := empty_of (hem (by decide) (by decide) (by decide))
   exact .un _ x (by decide) (hl x (by simp))
 ·obtain ⟨x, y, rfl⟩ := Sy.two_of hn
  obtain rfl := z1 (by decide)
  obtain rfl := z3 (by decide)
  obtain rfl := empty_of (hem (by decide) (by decide) (by decide))
  exact .bin o x y h0 h1 (hl x (by simp)) (hl y (by simp))
def LOps (L : Nat) (ops : List Int) : Prop := (L = 1 ∧ ops = [12]) ∨ (L = 2 ∧ ops = [11]) ∨ (L = 5 ∧ ops = [0, 1]) ∨ (L = 6 ∧ ops = [2, 3, 4])
structure RtE (e : E) : Prop where
 pe : ∀ lv rest, lv ≤ 7 → lv + 1 ≤ Sy.level e → Stop lv rest → Ok (fun f => pE f lv (toks e ++ rest)) e rest
 pl : ∀ L ops rest, LOps L ops → L ≤ Sy.level e → Stop L rest → Reach (fun f => pE f (L - 1) (toks e ++ rest)) (fun g => pL g L ops e rest)
 pf : ∀ rest, 8 ≤ Sy.level e → is [97, 116] rest = false → Reach (fun f => pE f 7 (toks e ++ rest)) (fun g => pF g e rest)
 po : ∀ rest, Sy.level e = 9 → is [97, 116] rest = false → Ok (fun f => pO f (toks e ++ rest)) e rest
 ne : toks e ≠ []
 no : 4 ≤ Sy.level e → is [110, 111, 116] (toks e) = false
 cl : is [41] (toks e) = false
 pre : 8 ≤ Sy.level e → is [45] (toks e) = false ∧ is [119, 101, 97, 107] (toks e) = false ∧ is [103, 101, 116] (toks e) = false
theorem pE_L {L : Nat} {ops : List Int} (h : LOps L ops) (f : Nat) (ts : Toks) : pE (f + 1) (L - 1) ts = (pE f L ts).bind fun a r => pL f L ops a r := by
 rcases h with ⟨rfl, rfl⟩ | ⟨rfl, rfl⟩ | ⟨rfl, rfl⟩ | ⟨rfl, rfl⟩
 ·exact pE_0 f ts
 ·exact pE_1 f ts
 ·exact pE_4 f ts
 ·exact pE_5 f ts
theorem LOps.le {L : Nat} {ops : List Int} (h : LOps L ops) : 1 ≤ L ∧ L ≤ 6 ∧ L ≠ 3 ∧ L ≠ 4 := by
 rcases h with ⟨rfl, _⟩ | ⟨rfl, _⟩ | ⟨rfl, _⟩ | ⟨rfl, _⟩ <;> omega
theorem pl_of {L : Nat} {ops : List Int} (h : LOps L ops) {ts rest : Toks} {e : E} (hp : Ok (fun f => pE f L ts) e rest) : Reach (fun f => pE f (L - 1) ts) (fun g => pL g L ops e rest) :=
 (Reach.step fun f => pE_L h f ts).trans (Reach.bind hp)
theorem rt_high {e : E} (hl : 8 ≤ Sy.level e) (hne : toks e ≠ []) (hcl : is [41] (toks e) = false) (hno : is [110, 111, 116] (toks e) = false) (hpre : is [45] (toks e) = false ∧ is [119, 101, 97, 107] (toks e) = false ∧ is [103, 101, 116] (toks e) = false)
 (hpo : ∀ rest, Sy.level e = 9 → is [97, 116] rest = false → Ok (fun f => pO f (toks e ++ rest)) e rest) (hpf : ∀ rest, is [97, 116] rest = false → Reach (fun f => pE f 7 (toks e ++ rest)) (fun g => pF g e rest)) : RtE e := by
 have hpe : ∀ lv rest, lv ≤ 7 → lv + 1 ≤ Sy.level e → Stop lv rest → Ok (fun f => pE f lv (toks e ++ rest)) e rest := fun lv rest h7 _ hs =>
  climb' h7 (Nat.le_refl 7) ((hpf rest hs.2.1).ok (pF_stop e hs.1)) hs ⟨fun _ _ => by rw [is_app _ hne]; exact hno, fun _ _ => by rw [is_app _ hne, is_app _ hne, is_app _ hne]; exact hpre⟩
 exact ⟨hpe, fun L ops rest h h1 hs => pl_of h (hpe L rest (by have := h.le; omega) (by have := h.le; omega) hs), fun rest _ hat => hpf rest hat, hpo, hne, fun _ => hno, hcl, fun _ => hpre⟩
theorem rt_opd {e : E} (hl : 8 ≤ Sy.level e) (hne : toks e ≠ []) (hcl : is [41] (toks e) = false) (hno : is [110, 111, 116] (toks e) = false) (hpre : is [45] (toks e) = false ∧ is [119, 101, 97, 107] (toks e) = false ∧ is [103, 101, 116] (toks e) = false)
 (hpo : ∀ rest, is [97, 116] rest = false → Ok (fun f => pO f (toks e ++ rest)) e rest) : RtE e :=
 rt_high hl hne hcl hno hpre (fun rest _ hat => hpo rest hat) fun rest hat => (Reach.step fun f => pE_7 f _).trans (Reach.bind (hpo rest hat))
theorem rt_low {e : E} (hl : Sy.level e ≤ 7) (hne : toks e ≠ []) (hcl : is [41] (toks e) = false) (hno : 4 ≤ Sy.level e → is [110, 111, 116] (toks e) = false)
 (hpe : ∀ lv rest, lv ≤ 7 → lv + 1 ≤ Sy.level e → Stop lv rest → Ok (fun f => pE f lv (toks e ++ rest)) e rest)
 (hpl : ∀ L ops rest, LOps L ops → L = Sy.level e → Stop L rest → Reach (fun f => pE f (L - 1) (toks e ++ rest)) (fun g => pL g L ops e rest)) : RtE e := by
 refine ⟨hpe, fun L ops rest h h1 hs => ?_, fun _ h _ => by omega, fun _ h _ => by omega, hne, hno, hcl, fun h => by omega⟩
 by_cases heq : L = Sy.level e
 ·exact hpl L ops rest h heq hs
 ·exact pl_of h (hpe L rest (by have := h.le; omega) (by omega) hs)
theorem pO_s (f : Nat) (x : B) (r : Toks) : pO (f + 1) (x :: r) = if x.kind = 1 then .ok (num x.val) r
 else if x.kind = 2 then .ok (var ⟨x.text.toArray⟩) r
 else if is [110, 105, 108] (x :: r) then .ok (leaf 1) r
 else if is [116, 104, 105, 115] (x :: r) then .ok (leaf 2) r
 else if is [40] (x :: r) then (pE f 0 r).bind fun a r => (expect [41] r).bind fun _ r => .ok a r
 else if is [110, 101, 119] (x :: r) then
  (word 3 r).bind fun n r => (pA f r).bind fun l r =>
   if is [97, 116] r then (pE f 6 r.tail).bind fun b r => .ok (new n true (l ++ [b])) r else .ok (new n false l) r
 else .bad (x :: r) := by rw [pO]
theorem stop_close (rest : Toks) : Stop 0 (sy [41] :: rest) := stop_sym _ _ (by decide)
theorem stop_comma (rest : Toks) : Stop 0 (sy [44] :: rest) := stop_sym _ _ (by decide)
theorem level_pos (e : E) : 1 ≤ Sy.level e := by
 obtain ⟨k, o, i, nm, a, l⟩ := e
 unfold Sy.level Sy.levelK Sy.opLevel
 repeat' split
 all_goals omega
theorem wrap {a : E} (h : RtE a) (rest : Toks) : Ok (fun f => pO f (sy [40] :: (toks a ++ [sy [41]]) ++ rest)) a rest := by
 refine .step (body := fun f => (pE f 0 (toks a ++ sy [41] :: rest)).bind fun a r => (expect [41] r).bind fun _ r => .ok a r) (fun f => ?_) ?_
 ·show pO (f + 1) (sy [40] :: ((toks a ++ [sy [41]]) ++ rest)) = _
  rw [pO_s, List.append_assoc]
  rfl
 ·exact .bind (h.pe 0 _ (by omega) (level_pos a) (stop_close rest)) (.pure a rest)
theorem argT_in {a : E} {req : Nat} (h : req ≤ Sy.level a) : argT req a = toks a := by unfold argT parT; rw [if_neg (by show ¬ Sy.level a < req; omega)]
theorem argT_out {a : E} {req : Nat} (h : Sy.level a < req) : argT req a = sy [40] :: (toks a ++ [sy [41]]) := by unfold argT parT; rw [if_pos h]
theorem arg_ne {a : E} (h : RtE a) (req : Nat) : argT req a ≠ [] := by
 rcases Nat.lt_or_ge (Sy.level a) req with hl | hl
 ·rw [argT_out hl]; simp
 ·rw [argT_in hl]; exact h.ne
theorem arg_no {a : E} (h : RtE a) {req : Nat} (hr : 4 ≤ req) : is [110, 111, 116] (argT req a) = false := by
 rcases Nat.lt_or_ge (Sy.level a) req with hl | hl
 ·rw [argT_out hl]; rfl
 ·rw [argT_in hl]; exact h.no (by omega)
theorem arg_cl {a : E} (h : RtE a) (req : Nat) : is [41] (argT req a) = false := by
 rcases Nat.lt_or_ge (Sy.level a) req with hl | hl
 ·rw [argT_out hl]; rfl
 ·rw [argT_in hl]; exact h.cl
theorem arg_pre {a : E} (h : RtE a) {req : Nat} (hr : 8 ≤ req) : is [45] (argT req a) = false ∧ is [119, 101, 97, 107] (argT req a) = false ∧ is [103, 101, 116] (argT req a) = false := by
 rcases Nat.lt_or_ge (Sy.level a) req with hl | hl
 ·rw [argT_out hl]; exact ⟨rfl, rfl, rfl⟩
 ·rw [argT_in hl]; exact h.pre (by omega)
theorem arg_ok {a : E} (h : RtE a) {lv : Nat} (h7 : lv ≤ 7) {rest : Toks} (hs : Stop lv rest) : Ok (fun f => pE f lv (argT (lv + 1) a ++ rest)) a rest := by
 rcases Nat.lt_or_ge (Sy.level a) (lv + 1) with hl | hl
 ·rw [argT_out hl]
  refine climb' h7 (Nat.le_refl 7) (((Reach.step fun f => pE_7 f _).trans (Reach.bind (wrap h rest))).ok (pF_stop a hs.1)) hs ⟨fun _ _ => rfl, fun _ _ => ⟨rfl, rfl, rfl⟩⟩
 ·rw [argT_in hl]
  exact h.pe lv rest h7 hl hs
def tailT : List E → Toks → Toks
 | [], rest => sy [41] :: rest
 | e :: r, rest => sy [44] :: (toks e ++ tailT r rest)
theorem commas_tail : ∀ (e : E) (l : List E) (rest : Toks), commasT (toks e :: l.map toks) ++ sy [41] :: rest = toks e ++ tailT l rest
 | e, [], rest => rfl
 | e, x :: r, rest => by
   show (toks e ++ sy [44] :: commasT (toks x :: r.map toks)) ++ sy [41] :: rest = _
   rw [List.append_assoc, List.cons_append, commas_tail x r rest]
   rfl
theorem stop_tail : ∀ (l : List E) (rest : Toks), Stop 0 (tailT l rest)
 | [], rest => stop_close rest
 | _ :: _, _ => stop_comma _
theorem pM_s (f : Nat) (l : List E) (ts : Toks) : pM (f + 1) l ts = if is [44] ts then (pE f 0 ts.tail).bind fun a r => pM f (l ++ [a]) r else (expect [41] ts).bind fun _ r => .ok l r := by rw [pM]
theorem pA_s (f : Nat) (ts : Toks) : pA (f + 1) ts = (expect [40] ts).bind fun _ r => if is [41] r then .ok [] r.tail else (pE f 0 r).bind fun a r => pM f [a] r := by rw [pA]
theorem more_ok : ∀ (l : List E) (acc : List E) (rest : Toks), (∀ e ∈ l, RtE e) → Ok (fun f => pM f acc (tailT l rest)) (acc ++ l) rest
 | [], acc, rest, _ => by
   refine .step (body := fun _ => .ok acc rest) (fun f => by rw [pM_s]; rfl) ?_
   rw [List.append_nil]
   exact .pure acc rest
 | e :: r, acc, rest, h => by
   have ih := more_ok r (acc ++ [e]) rest fun x hx => h x (by simp [hx])
   rw [List.append_assoc] at ih
   exact .step (body := fun f => (pE f 0 (toks e ++ tailT r rest)).bind fun a r => pM f (acc ++ [a]) r) (fun f => by rw [pM_s]; rfl) (.bind ((h e (by simp)).pe 0 _ (by omega) (level_pos e) (stop_tail r rest)) ih)
theorem args_ok (l : List E) (rest : Toks) (h : ∀ e ∈ l, RtE e) : Ok (fun f => pA f (sy [40] :: (commasT (l.map toks) ++ sy [41] :: rest))) l rest := by
 cases l with
 | nil => exact .step (body := fun _ => .ok [] rest) (fun f => by rw [pA_s]; rfl) (.pure [] rest)
 | cons e r =>
   have h1 := h e (by simp)
   have hm := more_ok r [e] rest fun x hx => h x (by simp [hx])
   rw [List.map_cons, commas_tail]
   refine .step (body := fun f => (pE f 0 (toks e ++ tailT r rest)).bind fun a r => pM f [a] r) (fun f => ?_) (.bind (h1.pe 0 _ (by omega) (level_pos e) (stop_tail r rest)) hm)
   rw [pA_s]
   show (if is [41] (toks e ++ tailT r rest) = true then _ else _) = _
   rw [is_app _ h1.ne, h1.cl]
   rfl
end Pa
end Go.Proofs.YtdckddkalgnlpaaGreatDoor
namespace Go.Proofs.YtdckddkalgnlpaaGreatDoor
namespace Pa
open Tr
theorem mk_nm' (nm : ByteArray) : (⟨nm.data.toList.toArray⟩ : ByteArray) = nm := by cases nm; simp
theorem kw_kind (t : Bytes) : (kw t).kind = 4 := rfl
theorem nmT_kind (t : Bytes) : (nmT t).kind = 2 := rfl
theorem toks_num (n : Nat) : toks (num n) = [⟨1, dec n, n⟩] := by rw [num, toks]; rfl
theorem toks_leaf1 : toks (leaf 1) = [kw [110, 105, 108]] := by rw [leaf, toks]; rfl
theorem toks_leaf2 : toks (leaf 2) = [kw [116, 104, 105, 115]] := by rw [leaf, toks]; rfl
theorem toks_var (nm : ByteArray) : toks (var nm) = [nmT nm.data.toList] := by rw [var, toks]; rfl
theorem toks_fld (nm : ByteArray) (x : E) : toks (fld nm x) = argT 8 x ++ [sy [46], nmT nm.data.toList] := by rw [fld, toks, tokss, tokss]; rfl
theorem toks_new (nm : ByteArray) (l : List E) : toks (new nm false l) = kw [110, 101, 119] :: clT nm.data.toList :: sy [40] :: (commasT (l.map toks) ++ [sy [41]]) := by
 rw [new, toks, tokss_map]
 show kw [110, 101, 119] :: clT nm.data.toList :: sy [40] :: (commasT ((l.map fun e => (Sy.level e, toks e)).map Prod.snd) ++ [sy [41]]) = _
 rw [List.map_map]
 rfl
theorem toks_newAt (nm : ByteArray) (l : List E) (y : E) : toks (new nm true (l ++ [y])) = kw [110, 101, 119] :: clT nm.data.toList :: sy [40] :: (commasT (l.map toks) ++ sy [41] :: kw [97, 116] :: argT 7 y) := by
 rw [new, toks, tokss_map]
 show kw [110, 101, 119] :: clT nm.data.toList :: sy [40] :: (commasT (((l ++ [y]).map fun e => (Sy.level e, toks e)).dropLast.map Prod.snd) ++ sy [41] :: kw [97, 116] :: parT 7 (((l ++ [y]).map fun e => (Sy.level e, toks e)).getLastD (9, []))) = _
 rw [List.map_append, List.map_cons, List.map_nil, List.dropLast_concat, List.getLastD_concat, List.map_map]
 rfl
theorem toks_un6 (x : E) : toks (un 6 x) = kw [119, 101, 97, 107] :: argT 7 x := by rw [un, toks, tokss, tokss]; rfl
theorem toks_un7 (x : E) : toks (un 7 x) = kw [103, 101, 116] :: argT 7 x := by rw [un, toks, tokss, tokss]; rfl
theorem toks_un8 (x : E) : toks (un 8 x) = sy [45] :: argT 7 x := by rw [un, toks, tokss, tokss]; rfl
theorem toks_un9 (x : E) : toks (un 9 x) = kw [110, 111, 116] :: argT 3 x := by rw [un, toks, tokss, tokss]; rfl
theorem toks_bin (o : Int) (x y : E) : toks (bin o x y) = argT (if Sy.opLevel o = 4 then 5 else Sy.opLevel o) x ++ opT o :: argT (Sy.opLevel o + 1) y := by rw [bin, toks, tokss, tokss, tokss]; rfl
theorem rt_num (n : Nat) : RtE (num n) := by
 have ht := toks_num n
 refine rt_opd (by show 8 ≤ 9; omega) (by rw [ht]; simp) (by rw [ht]; simp [is_cons]) (by rw [ht]; simp [is_cons]) (by rw [ht]; simp [is_cons]) fun rest _ => ?_
 rw [ht]
 exact .step (body := fun _ => .ok (num n) rest) (fun f => by show pO (f + 1) (⟨1, dec n, n⟩ :: rest) = _; rw [pO_s, if_pos rfl]) (.pure _ _)
theorem rt_leaf1 : RtE (leaf 1) := by
 have ht := toks_leaf1
 refine rt_opd (by show 8 ≤ 9; omega) (by rw [ht]; simp) (by rw [ht]; rfl) (by rw [ht]; rfl) (by rw [ht]; exact ⟨rfl, rfl, rfl⟩) fun rest _ => ?_
 rw [ht]
 exact .step (body := fun _ => .ok (leaf 1) rest) (fun f => by show pO (f + 1) (kw [110, 105, 108] :: rest) = _; rw [pO_s]; rfl) (.pure _ _)
theorem rt_leaf2 : RtE (leaf 2) := by
 have ht := toks_leaf2
 refine rt_opd (by show 8 ≤ 9; omega) (by rw [ht]; simp) (by rw [ht]; rfl) (by rw [ht]; rfl) (by rw [ht]; exact ⟨rfl, rfl, rfl⟩) fun rest _ => ?_
 rw [ht]
 exact .step (body := fun _ => .ok (leaf 2) rest) (fun f => by show pO (f + 1) (kw [116, 104, 105, 115] :: rest) = _; rw [pO_s]; rfl) (.pure _ _)
theorem rt_var (nm : ByteArray) : RtE (var nm) := by
 have ht := toks_var nm
 refine rt_opd (by show 8 ≤ 9; omega) (by rw [ht]; simp) (by rw [ht]; simp [is_cons, nmT]) (by rw [ht]; simp [is_cons, nmT]) (by rw [ht]; simp [is_cons, nmT]) fun rest _ => ?_
 rw [ht]
 refine .step (body := fun _ => .ok (var nm) rest) (fun f => ?_) (.pure _ _)
 show pO (f + 1) (nmT nm.data.toList :: rest) = _
 rw [pO_s, nmT_kind, if_neg (by decide), if_pos rfl]
 show R.ok (var ⟨nm.data.toList.toArray⟩) rest = _
 rw [mk_nm']
theorem word_nm (nm : ByteArray) (r : Toks) : word 2 (nmT nm.data.toList :: r) = .ok nm r := by
 show R.ok (⟨nm.data.toList.toArray⟩ : ByteArray) r = _
 rw [mk_nm']
theorem word_cl (nm : ByteArray) (r : Toks) : word 3 (clT nm.data.toList :: r) = .ok nm r := by
 show R.ok (⟨nm.data.toList.toArray⟩ : ByteArray) r = _
 rw [mk_nm']
theorem rt_fld (nm : ByteArray) (x : E) (h : RtE x) : RtE (fld nm x) := by
 have ht := toks_fld nm x
 have hne := arg_ne h 8
 refine rt_high (by show 8 ≤ 8; omega) (by rw [ht]; simp) (by rw [ht, is_app _ hne]; exact arg_cl h 8) (by rw [ht, is_app _ hne]; exact arg_no h (by omega)) (by rw [ht, is_app _ hne, is_app _ hne, is_app _ hne]; exact arg_pre h (by omega)) (fun _ h9 _ => absurd h9 (show ¬ 8 = 9 by decide)) fun rest _ => ?_
 have hstep : Reach (fun f => pF f x (sy [46] :: nmT nm.data.toList :: rest)) (fun g => pF g (fld nm x) rest) := .step fun f => by
  rw [pF_s, if_pos (show is [46] (sy [46] :: nmT nm.data.toList :: rest) = true from rfl)]
  show (word 2 (nmT nm.data.toList :: rest)).bind _ = _
  rw [word_nm]
  rfl
 rw [ht, List.append_assoc]
 show Reach (fun f => pE f 7 (argT 8 x ++ sy [46] :: nmT nm.data.toList :: rest)) _
 refine .trans ?_ hstep
 rcases Nat.lt_or_ge (Sy.level x) 8 with hl | hl
 ·rw [argT_out hl]
  exact (Reach.step fun f => pE_7 f _).trans (Reach.bind (wrap h _))
 ·rw [argT_in hl]
  exact h.pf _ hl rfl
theorem pO_new (f : Nat) (r : Toks) : pO (f + 1) (kw [110, 101, 119] :: r) = (word 3 r).bind fun n r => (pA f r).bind fun l r => if is [97, 116] r then (pE f 6 r.tail).bind fun b r => .ok (new n true (l ++ [b])) r else .ok (new n false l) r := by
 rw [pO_s, kw_kind, if_neg (by decide), if_neg (by decide), show is [110, 105, 108] (kw [110, 101, 119] :: r) = false from rfl, show is [116, 104, 105, 115] (kw [110, 101, 119] :: r) = false from rfl, show is [40] (kw [110, 101, 119] :: r) = false from rfl, show is [110, 101, 119] (kw [110, 101, 119] :: r) = true from rfl]
 rfl
theorem rt_new (nm : ByteArray) (l : List E) (h : ∀ x ∈ l, RtE x) : RtE (new nm false l) := by
 have ht := toks_new nm l
 have hlv : Sy.level (new nm false l) = 9 := rfl
 refine rt_opd (by rw [hlv]; omega) (by rw [ht]; simp) (by rw [ht]; rfl) (by rw [ht]; rfl) (by rw [ht]; exact ⟨rfl, rfl, rfl⟩) fun rest hat => ?_
 rw [ht]
 refine .step (body := fun f => (pA f (sy [40] :: (commasT (l.map toks) ++ sy [41] :: rest))).bind fun l r => if is [97, 116] r then (pE f 6 r.tail).bind fun b r => .ok (new nm true (l ++ [b])) r else .ok (new nm false l) r) (fun f => ?_) (.bind (args_ok l rest h) (by rw [hat]; exact .pure _ _))
 show pO (f + 1) (kw [110, 101, 119] :: (clT nm.data.toList :: sy [40] :: (commasT (l.map toks) ++ [sy [41]]) ++ rest)) = _
 rw [pO_new]
 show (word 3 (clT nm.data.toList :: (sy [40] :: (commasT (l.map toks) ++ [sy [41]]) ++ rest))).bind _ = _
 rw [word_cl, List.cons_append, List.append_assoc]
 rfl
theorem rt_newAt (nm : ByteArray) (l : List E) (y : E) (h : ∀ x ∈ l, RtE x) (hy : RtE y) : RtE (new nm true (l ++ [y])) := by
 have ht := toks_newAt nm l y
 have hlv : Sy.level (new nm true (l ++ [y])) = 7 := rfl
 refine rt_low (by rw [hlv]; omega) (by rw [ht]; simp) (by rw [ht]; rfl) (fun _ => by rw [ht]; rfl) (fun lv rest h7 hl hs => ?_) (fun L ops rest hL he hs => by have := hL.le; omega)
 have hs6 : Stop 6 rest := hs.mono (by omega)
 have hpo : Ok (fun f => pO f (toks (new nm true (l ++ [y])) ++ rest)) (new nm true (l ++ [y])) rest := by
  rw [ht]
  refine .step (body := fun f => (pA f (sy [40] :: (commasT (l.map toks) ++ sy [41] :: kw [97, 116] :: (argT 7 y ++ rest)))).bind fun l r => if is [97, 116] r then (pE f 6 r.tail).bind fun b r => .ok (new nm true (l ++ [b])) r else .ok (new nm false l) r) (fun f => ?_) (.bind (args_ok l _ h) ?_)
  ·show pO (f + 1) (kw [110, 101, 119] :: (clT nm.data.toList :: sy [40] :: (commasT (l.map toks) ++ sy [41] :: kw [97, 116] :: argT 7 y) ++ rest)) = _
   rw [pO_new]
   show (word 3 (clT nm.data.toList :: (sy [40] :: (commasT (l.map toks) ++ sy [41] :: kw [97, 116] :: argT 7 y) ++ rest))).bind _ = _
   rw [word_cl, List.cons_append, List.append_assoc]
   rfl
  ·exact .bind (arg_ok hy (by omega) hs6) (.pure _ _)
 exact climb' h7 (Nat.le_refl 7) (((Reach.step fun f => pE_7 f _).trans (Reach.bind hpo)).ok (pF_stop _ hs.1)) hs ⟨fun _ _ => by rw [ht]; rfl, fun _ _ => by rw [ht]; exact ⟨rfl, rfl, rfl⟩⟩
theorem rt_un (k : Int) (x : E) (hk : k = 6 ∨ k = 7 ∨ k = 8 ∨ k = 9) (h : RtE x) : RtE (un k x) := by
 rcases hk with rfl | rfl | rfl | rfl
 ·have ht := toks_un6 x
  have hlv : Sy.level (un 6 x) = 7 := rfl
  refine rt_low (by rw [hlv]; omega) (by rw [ht]; simp) (by rw [ht]; rfl) (fun _ => by rw [ht]; rfl) (fun lv rest h7 hl hs => ?_) (fun L ops rest hL he hs => by have := hL.le; omega)
  rw [ht]
  refine climb' (hi := 6) (by omega) (by omega) (.step (body := fun f => (pE f 6 (argT 7 x ++ rest)).bind fun a r => .ok (un 6 a) r) (fun f => by rw [pE_6]; rfl) (.bind (arg_ok h (by omega) (hs.mono (by omega))) (.pure _ _))) hs ⟨fun _ _ => rfl, fun _ _ => by omega⟩
 ·have ht := toks_un7 x
  have hlv : Sy.level (un 7 x) = 7 := rfl
  refine rt_low (by rw [hlv]; omega) (by rw [ht]; simp) (by rw [ht]; rfl) (fun _ => by rw [ht]; rfl) (fun lv rest h7 hl hs => ?_) (fun L ops rest hL he hs => by have := hL.le; omega)
  rw [ht]
  refine climb' (hi := 6) (by omega) (by omega) (.step (body := fun f => (pE f 6 (argT 7 x ++ rest)).bind fun a r => .ok (un 7 a) r) (fun f => by rw [pE_6]; rfl) (.bind (arg_ok h (by omega) (hs.mono (by omega))) (.pure _ _))) hs ⟨fun _ _ => rfl, fun _ _ => by omega⟩
 ·have ht := toks_un8 x
  have hlv : Sy.level (un 8 x) = 7 := rfl
  refine rt_low (by rw [hlv]; omega) (by rw [ht]; simp) (by rw [ht]; rfl) (fun _ => by rw [ht]; rfl) (fun lv rest h7 hl hs => ?_) (fun L ops rest hL he hs => by have := hL.le; omega)
  rw [ht]
  refine climb' (hi := 6) (by omega) (by omega) (.step (body := fun f => (pE f 6 (argT 7 x ++ rest)).bind fun a r => .ok (un 8 a) r) (fun f => by rw [pE_6]; rfl) (.bind (arg_ok h (by omega) (hs.mono (by omega))) (.pure _ _))) hs ⟨fun _ _ => rfl, fun _ _ => by omega⟩
 ·have ht := toks_un9 x
  have hlv : Sy.level (un 9 x) = 3 := rfl
  refine rt_low (by rw [hlv]; omega) (by rw [ht]; simp) (by rw [ht]; rfl) (fun h4 => by omega) (fun lv rest h7 hl hs => ?_) (fun L ops rest hL he hs => by have := hL.le; omega)
  rw [ht]
  refine climb' (hi := 2) (by omega) (by omega) (.step (body := fun f => (pE f 2 (argT 3 x ++ rest)).bind fun a r => .ok (un 9 a) r) (fun f => by rw [pE_2]; rfl) (.bind (arg_ok h (by omega) (hs.mono (by omega))) (.pure _ _))) hs ⟨fun _ _ => by omega, fun _ _ => by omega⟩
theorem op_level (o : Int) (h0 : 0 ≤ o) (h1 : o ≤ 12) : (Sy.opLevel o = 1 ∧ o = 12) ∨ (Sy.opLevel o = 2 ∧ o = 11) ∨ (Sy.opLevel o = 4 ∧ 5 ≤ o ∧ o ≤ 10) ∨ (Sy.opLevel o = 5 ∧ (o = 0 ∨ o = 1)) ∨ (Sy.opLevel o = 6 ∧ (o = 2 ∨ o = 3 ∨ o = 4)) := by
 unfold Sy.opLevel
 repeat' split
 all_goals omega
theorem rt_bin (o : Int) (x y : E) (h0 : 0 ≤ o) (h1 : o ≤ 12) (hx : RtE x) (hy : RtE y) : RtE (bin o x y) := by
 have ht := toks_bin o x y
 have hlv : Sy.level (bin o x y) = Sy.opLevel o := rfl
 have hol := op_level o h0 h1
 obtain ⟨R, hR⟩ : ∃ q, (if Sy.opLevel o = 4 then 5 else Sy.opLevel o) = q := ⟨_, rfl⟩
 rw [hR] at ht
 have hRl : Sy.opLevel o ≤ R := by rw [← hR]; split <;> omega
 have hne := arg_ne hx R
 have hpl : ∀ L ops rest, LOps L ops → L = Sy.level (bin o x y) → Stop L rest → Reach (fun f => pE f (L - 1) (toks (bin o x y) ++ rest)) (fun g => pL g L ops (bin o x y) rest) := fun L ops rest hL he hs => by
  rw [hlv] at he
  have hRL : R = L := by have := hL.le; rw [← hR, if_neg (by omega), he]
  have hmem : o ∈ ops ∧ ∀ p ∈ ops, 0 ≤ p ∧ p ≤ 12 := by
   rcases hL with ⟨rfl, rfl⟩ | ⟨rfl, rfl⟩ | ⟨rfl, rfl⟩ | ⟨rfl, rfl⟩
   ·obtain rfl : o = 12 := by omega
    decide
   ·obtain rfl : o = 11 := by omega
    decide
   ·rcases (show o = 0 ∨ o = 1 by omega) with rfl | rfl <;> decide
   ·rcases (show o = 2 ∨ o = 3 ∨ o = 4 by omega) with rfl | rfl | rfl <;> decide
  have hsr : Stop L (opT o :: (argT (L + 1) y ++ rest)) := stop_op h0 h1 (by omega) _
  have hstep : Reach (fun f => pL f L ops x (opT o :: (argT (L + 1) y ++ rest))) (fun g => pL g L ops (bin o x y) rest) := by
   refine .trans (q := fun f => (pE f L (argT (L + 1) y ++ rest)).bind fun b r => pL f L ops (bin o x b) r) (.step fun f => ?_) (.bind (arg_ok hy (by have := hL.le; omega) hs))
   rw [pL_s, opOf_some h0 h1 hmem.2 hmem.1]
   rfl
  rw [ht, hRL, ← he, List.append_assoc]
  show Reach (fun f => pE f (L - 1) (argT L x ++ opT o :: (argT (L + 1) y ++ rest))) _
  refine .trans ?_ hstep
  rcases Nat.lt_or_ge (Sy.level x) L with hl | hl
  ·rw [argT_out hl]
   refine pl_of hL ?_
   exact climb' (by have := hL.le; omega) (Nat.le_refl 7) (((Reach.step fun f => pE_7 f _).trans (Reach.bind (wrap hx _))).ok (pF_stop x hsr.1)) hsr ⟨fun _ _ => rfl, fun _ _ => ⟨rfl, rfl, rfl⟩⟩
  ·rw [argT_in hl]
   exact hx.pl L ops _ hL hl hsr
 refine rt_low (by rw [hlv]; omega) (by rw [ht]; simp) (by rw [ht, is_app _ hne]; exact arg_cl hx R) (fun h4 => by rw [ht, is_app _ hne]; rw [hlv] at h4; exact arg_no hx (by omega)) (fun lv rest h7 hl hs => ?_) hpl
 rw [hlv] at hl
 by_cases h4 : Sy.opLevel o = 4
 ·have hR5 : R = 5 := by rw [← hR, if_pos h4]
  have ho5 : 5 ≤ o ∧ o ≤ 10 := by omega
  have hmem : o ∈ ([5, 6, 7, 8, 9, 10] : List Int) := by
   rcases (show o = 5 ∨ o = 6 ∨ o = 7 ∨ o = 8 ∨ o = 9 ∨ o = 10 by omega) with rfl | rfl | rfl | rfl | rfl | rfl <;> decide
  have hns : is [110, 111, 116] (argT 5 x ++ opT o :: argT 5 y ++ rest) = false := by
   rw [List.append_assoc, is_app _ (arg_ne hx 5)]
   exact arg_no hx (by omega)
  rw [ht, hR5, h4]
  refine climb' (hi := 3) (by omega) (by omega) ?_ hs ⟨fun _ _ => hns, fun _ _ => by omega⟩
  rw [List.append_assoc]
  refine .step (fun f => pE_3 f _) (.bind (arg_ok hx (by omega) (stop_op h0 h1 (by omega) _)) ?_)
  show Ok (fun f => match opOf [5, 6, 7, 8, 9, 10] (opT o :: (argT 5 y ++ rest)) with | some p => (pE f 4 (opT o :: (argT 5 y ++ rest)).tail).bind fun b r => .ok (bin p x b) r | none => .ok x (opT o :: (argT 5 y ++ rest))) (bin o x y) rest
  rw [opOf_some h0 h1 (by decide) hmem]
  exact .bind (arg_ok hy (by omega) (hs.mono (by omega))) (.pure _ _)
 ·obtain ⟨ops, hL, hops⟩ : ∃ ops, LOps (Sy.opLevel o) ops ∧ ∀ p ∈ ops, 0 ≤ p ∧ p ≤ 12 ∧ (Sy.opLevel o - 1) + 1 ≤ Sy.opLevel p := by
   rcases hol with ⟨a, rfl⟩ | ⟨a, rfl⟩ | ⟨a, _⟩ | ⟨a, _⟩ | ⟨a, _⟩
   ·exact ⟨[12], .inl ⟨a, rfl⟩, by rw [a]; decide⟩
   ·exact ⟨[11], .inr (.inl ⟨a, rfl⟩), by rw [a]; decide⟩
   ·exact absurd a h4
   ·exact ⟨[0, 1], .inr (.inr (.inl ⟨a, rfl⟩)), by rw [a]; decide⟩
   ·exact ⟨[2, 3, 4], .inr (.inr (.inr ⟨a, rfl⟩)), by rw [a]; decide⟩
  have hk := (hpl _ ops rest hL hlv.symm (hs.mono (by omega))).ok (pL_stop (bin o x y) (hs.mono (show lv ≤ Sy.opLevel o - 1 by omega)) hops)
  refine climb' (hi := Sy.opLevel o - 1) (by omega) (by omega) hk hs ⟨fun a b => ?_, fun a b => by omega⟩
  rw [ht, List.append_assoc, is_app _ hne]
  exact arg_no hx (by omega)
theorem size_args {k o i : Int} {nm : ByteArray} {a : Bool} {l : List E} {x : E} (h : x ∈ l) : Sy.sizeE x < Sy.sizeE (.mk k o i nm a l) := by
 rw [Sy.sizeE]
 have key : ∀ m : List E, x ∈ m → Sy.sizeE x ≤ Sy.sizeEs m := by
  intro m
  induction m with
  | nil => intro h; simp at h
  | cons y r ih =>
    intro h
    rw [Sy.sizeEs]
    rcases List.mem_cons.1 h with rfl | h
    ·omega
    ·have := ih h; omega
 have := key l h
 omega
theorem rt_all : ∀ (n : Nat) (e : E), Sy.sizeE e ≤ n → validE e = true → RtE e
 | 0, e, h, _ => by have : 0 < Sy.sizeE e := by (cases e; rw [Sy.sizeE]; omega)
                    omega
 | n + 1, e, h, hv => by
   have ih : ∀ x, Sy.sizeE x < Sy.sizeE e → validE x = true → RtE x := fun x hx hvx => rt_all n x (by omega) hvx
   cases form_of e hv with
   | num m _ => exact rt_num m
   | nil => exact rt_leaf1
   | this => exact rt_leaf2
   | var nm _ => exact rt_var nm
   | fld nm x _ hx => exact rt_fld nm x (ih x (size_args (by simp)) hx)
   | new nm l _ hx => exact rt_new nm l fun x hm => ih x (size_args hm) (hx x hm)
   | newAt nm l y _ hx hy => exact rt_newAt nm l y (fun x hm => ih x (size_args (by simp [hm])) (hx x hm)) (ih y (size_args (by simp)) hy)
   | un k x hk hx => exact rt_un k x hk (ih x (size_args (by simp)) hx)
   | bin o x y h0 h1 hx hy => exact rt_bin o x y h0 h1 (ih x (size_args (by simp)) hx) (ih y (size_args (by simp)) hy)
theorem rt_expr (e : E) (hv : validE e = true) : RtE e := rt_all _ e (Nat.le_refl _) hv
end Pa
end Go.Proofs.YtdckddkalgnlpaaGreatDoor
