/-
  A parser that stops ahead of the end of its tokens does the same if more tokens follow. No program in sight.
-/
import Derived.Test.YtdckddkalgnlpaaGreatDoorJ6
namespace Go.Proofs.YtdckddkalgnlpaaGreatDoor
namespace Pa
open Tr
section
variable {α β : Type}
def R.rest : R α → Toks
  | .ok _ r => r
  | .bad r => r
def R.app (x : R α) (suf : Toks) : R α :=
  match x with
  | .ok a r => .ok a (r ++ suf)
  | .bad r => .bad (r ++ suf)
/-- what stops ahead of the end does the same if more follows -/
def Ext (p : Toks → R α) : Prop := (p []).rest = [] ∧ ∀ ts suf, (p ts).rest ≠ [] → p (ts ++ suf) = (p ts).app suf
theorem Ext.bad : Ext (fun ts => (.bad ts : R α)) := ⟨rfl, fun _ _ _ => rfl⟩
theorem Ext.ok (a : α) : Ext (fun ts => (.ok a ts : R α)) := ⟨rfl, fun _ _ _ => rfl⟩
theorem Ext.bind {p : Toks → R α} {q : α → Toks → R β} (hp : Ext p) (hq : ∀ a, Ext (q a)) : Ext (fun ts => (p ts).bind q) := by
  have h0 : ∀ a, (q a []).rest = [] := fun a => (hq a).1
  refine ⟨?_, fun ts suf hr => ?_⟩
  · have h1 := hp.1
    show ((p []).bind q).rest = []
    cases h : p [] with
    | ok a r => rw [h] at h1; obtain rfl : r = [] := h1; exact h0 a
    | bad r => rw [h] at h1; exact h1
  · have h1 := hp.2 ts suf
    show (p (ts ++ suf)).bind q = ((p ts).bind q).app suf
    have hr : ((p ts).bind q).rest ≠ [] := hr
    cases h : p ts with
    | bad r =>
      rw [h] at hr h1
      rw [h1 hr]
      rfl
    | ok a r =>
      rw [h] at hr h1
      have hr2 : (q a r).rest ≠ [] := hr
      have hne : r ≠ [] := fun e => by subst e; exact hr2 (h0 a)
      rw [h1 hne]
      exact (hq a).2 r suf hr2
theorem Ext.ite {t : Bytes} {p q : Toks → R α} (hp : Ext p) (hq : Ext q) : Ext (fun ts => if is t ts then p ts.tail else q ts) := by
  refine ⟨hq.1, fun ts suf hr => ?_⟩
  cases ts with
  | nil => exact absurd hq.1 hr
  | cons x r =>
    show (if is t (x :: r) = true then p (r ++ suf) else q (x :: r ++ suf)) = R.app (if is t (x :: r) = true then p r else q (x :: r)) suf
    have hr : R.rest (if is t (x :: r) = true then p r else q (x :: r)) ≠ [] := hr
    cases hc : is t (x :: r) with
    | true =>
      rw [hc, if_pos rfl] at hr
      rw [if_pos rfl, if_pos rfl]
      exact hp.2 r suf hr
    | false =>
      rw [hc, if_neg (by decide)] at hr
      rw [if_neg (by decide), if_neg (by decide)]
      exact hq.2 (x :: r) suf hr
theorem Ext.cong {p q : Toks → R α} (h : ∀ ts, p ts = q ts) (hq : Ext q) : Ext p := by
  rw [show p = q from funext h]; exact hq
theorem ext_expect (t : Bytes) : Ext (expect t) := (Ext.ite (t := t) (Ext.ok ()) Ext.bad).cong fun _ => rfl
theorem ext_word (k : Nat) : Ext (word k) := by
  refine ⟨rfl, fun ts suf hr => ?_⟩
  cases ts with
  | nil => exact absurd rfl hr
  | cons x r =>
    show (if x.kind = k then R.ok _ (r ++ suf) else R.bad (x :: (r ++ suf))) = R.app (if x.kind = k then R.ok _ r else R.bad (x :: r)) suf
    by_cases hk : x.kind = k
    · rw [if_pos hk, if_pos hk]; rfl
    · rw [if_neg hk, if_neg hk]; rfl
theorem opOf_app {ops : List Int} {ts : Toks} (suf : Toks) (h : ts ≠ []) : opOf ops (ts ++ suf) = opOf ops ts := by
  unfold opOf
  congr 1
  funext o
  exact is_app suf h
theorem opOf_nil (ops : List Int) : opOf ops [] = none := by
  unfold opOf
  rw [List.find?_eq_none]
  intro o _ h
  exact absurd h (by show ¬ false = true; decide)
theorem Ext.op {ops : List Int} {p : Int → Toks → R α} {q : Toks → R α} (hp : ∀ o, Ext (p o)) (hq : Ext q) : Ext (fun ts => match opOf ops ts with | some o => p o ts.tail | none => q ts) := by
  refine ⟨?_, fun ts suf hr => ?_⟩
  · show (match opOf ops [] with | some o => p o [] | none => q []).rest = []
    rw [opOf_nil]
    exact hq.1
  · cases ts with
    | nil => exact absurd (by show (match opOf ops [] with | some o => p o [] | none => q []).rest = []; rw [opOf_nil]; exact hq.1) hr
    | cons x r =>
      have hr : (match opOf ops (x :: r) with | some o => p o r | none => q (x :: r)).rest ≠ [] := hr
      show (match opOf ops (x :: r ++ suf) with | some o => p o (r ++ suf) | none => q (x :: r ++ suf)) = (match opOf ops (x :: r) with | some o => p o r | none => q (x :: r)).app suf
      rw [opOf_app suf (List.cons_ne_nil x r)]
      cases hc : opOf ops (x :: r) with
      | some o => rw [hc] at hr; exact (hp o).2 r suf hr
      | none => rw [hc] at hr; exact hq.2 (x :: r) suf hr
end
structure ExtE (f : Nat) : Prop where
  pE : ∀ lv, Ext (pE f lv)
  pL : ∀ lv ops a, Ext (pL f lv ops a)
  pF : ∀ a, Ext (pF f a)
  pO : Ext (pO f)
  pA : Ext (pA f)
  pM : ∀ l, Ext (pM f l)
theorem ext_op' {f lv : Nat} (h : ExtE f) (ops : List Int) (a : E) : Ext (fun ts => match opOf ops ts with | some o => (pE f lv ts.tail).bind fun b r => .ok (bin o a b) r | none => .ok a ts) :=
  Ext.op (p := fun o ts => (pE f lv ts).bind fun b r => .ok (bin o a b) r) (fun _ => (h.pE lv).bind fun _ => Ext.ok _) (Ext.ok a)
theorem extE_pE {f : Nat} (h : ExtE f) (lv : Nat) : Ext (pE (f + 1) lv) := by
  by_cases h0 : lv = 0
  · subst h0; exact ((h.pE 1).bind fun a => h.pL 1 [12] a).cong (pE_0 f)
  by_cases h1 : lv = 1
  · subst h1; exact ((h.pE 2).bind fun a => h.pL 2 [11] a).cong (pE_1 f)
  by_cases h2 : lv = 2
  · subst h2; exact (Ext.ite (p := fun ts => (pE f 2 ts).bind fun a r => .ok (un 9 a) r) ((h.pE 2).bind fun _ => Ext.ok _) (h.pE 3)).cong (pE_2 f)
  by_cases h3 : lv = 3
  · subst h3; exact ((h.pE 4).bind fun a => ext_op' (lv := 4) h [5, 6, 7, 8, 9, 10] a).cong (pE_3 f)
  by_cases h4 : lv = 4
  · subst h4; exact ((h.pE 5).bind fun a => h.pL 5 [0, 1] a).cong (pE_4 f)
  by_cases h5 : lv = 5
  · subst h5; exact ((h.pE 6).bind fun a => h.pL 6 [2, 3, 4] a).cong (pE_5 f)
  by_cases h6 : lv = 6
  · subst h6
    exact (Ext.ite (p := fun ts => (pE f 6 ts).bind fun a r => .ok (un 8 a) r) ((h.pE 6).bind fun _ => Ext.ok _) (Ext.ite (p := fun ts => (pE f 6 ts).bind fun a r => .ok (un 6 a) r) ((h.pE 6).bind fun _ => Ext.ok _) (Ext.ite (p := fun ts => (pE f 6 ts).bind fun a r => .ok (un 7 a) r) ((h.pE 6).bind fun _ => Ext.ok _) (h.pE 7)))).cong (pE_6 f)
  · exact (h.pO.bind fun a => h.pF a).cong fun ts => by rw [pE, if_neg h0, if_neg h1, if_neg h2, if_neg h3, if_neg h4, if_neg h5, if_neg h6]
theorem extE_pO {f : Nat} (h : ExtE f) : Ext (pO (f + 1)) := by
  refine ⟨by rw [pO]; rfl, fun ts suf hr => ?_⟩
  cases ts with
  | nil => exact absurd (by rw [pO]; rfl) hr
  | cons x r =>
    have e1 := pO_s f x r
    have e2 := pO_s f x (r ++ suf)
    have hi : ∀ t, is t (x :: (r ++ suf)) = is t (x :: r) := fun t => rfl
    rw [hi, hi, hi, hi] at e2
    rw [List.cons_append]
    rw [e1] at hr ⊢
    rw [e2]
    clear e1 e2 hi
    by_cases c1 : x.kind = 1
    · rw [if_pos c1, if_pos c1]; rfl
    rw [if_neg c1, if_neg c1]
    rw [if_neg c1] at hr
    by_cases c2 : x.kind = 2
    · rw [if_pos c2, if_pos c2]; rfl
    rw [if_neg c2, if_neg c2]
    rw [if_neg c2] at hr
    by_cases c3 : is [110, 105, 108] (x :: r) = true
    · rw [if_pos c3, if_pos c3]; rfl
    rw [if_neg c3, if_neg c3]
    rw [if_neg c3] at hr
    by_cases c4 : is [116, 104, 105, 115] (x :: r) = true
    · rw [if_pos c4, if_pos c4]; rfl
    rw [if_neg c4, if_neg c4]
    rw [if_neg c4] at hr
    by_cases c5 : is [40] (x :: r) = true
    · rw [if_pos c5, if_pos c5]
      rw [if_pos c5] at hr
      exact ((h.pE 0).bind fun a => (ext_expect [41]).bind fun _ => Ext.ok a).2 r suf hr
    rw [if_neg c5, if_neg c5]
    rw [if_neg c5] at hr
    by_cases c6 : is [110, 101, 119] (x :: r) = true
    · rw [if_pos c6, if_pos c6]
      rw [if_pos c6] at hr
      exact ((ext_word 3).bind fun n => h.pA.bind fun l => Ext.ite (p := fun ts => (pE f 6 ts).bind fun b r => .ok (new n true (l ++ [b])) r) ((h.pE 6).bind fun _ => Ext.ok _) (Ext.ok (new n false l))).2 r suf hr
    · rw [if_neg c6, if_neg c6]; rfl
theorem ext_all : ∀ f, ExtE f
  | 0 => ⟨fun lv => Ext.bad.cong fun ts => by rw [pE], fun lv ops a => Ext.bad.cong fun ts => by rw [pL], fun a => Ext.bad.cong fun ts => by rw [pF], Ext.bad.cong fun ts => by rw [pO], Ext.bad.cong fun ts => by rw [pA], fun l => Ext.bad.cong fun ts => by rw [pM]⟩
  | f + 1 =>
    have h := ext_all f
    ⟨extE_pE h,
     fun lv ops a => (Ext.op (p := fun o ts => (pE f lv ts).bind fun b r => pL f lv ops (bin o a b) r) (fun _ => (h.pE lv).bind fun _ => h.pL _ _ _) (Ext.ok a)).cong (pL_s f lv ops a),
     fun a => (Ext.ite (p := fun ts => (word 2 ts).bind fun n r => pF f (fld n a) r) ((ext_word 2).bind fun n => h.pF _) (Ext.ok a)).cong (pF_s f a),
     extE_pO h,
     ((ext_expect [40]).bind fun _ => Ext.ite (p := fun r => .ok [] r) (Ext.ok []) ((h.pE 0).bind fun a => h.pM [a])).cong (pA_s f),
     fun l => (Ext.ite (p := fun ts => (pE f 0 ts).bind fun a r => pM f (l ++ [a]) r) ((h.pE 0).bind fun a => h.pM _) ((ext_expect [41]).bind fun _ => Ext.ok l)).cong (pM_s f l)⟩
/-! ### statements -/
theorem ext_pSend : ∀ (f : Nat) (a : E) (n : ByteArray), Ext (pSend f a n)
  | 0, a, n => Ext.bad.cong fun ts => by rw [pSend]
  | f + 1, a, n => (Ext.ite (p := fun ts => (word 2 ts).bind fun m r => pSend f (fld n a) m r) ((ext_word 2).bind fun m => ext_pSend f _ m) ((ext_all f).pA.bind fun l => Ext.ok _)).cong (pSend_s f a n)
theorem ext_pSet (f : Nat) (k : Int) : Ext (pSet f k) :=
  ((ext_word 2).bind fun _ => (ext_expect [61]).bind fun _ => ((ext_all f).pE 0).bind fun _ => Ext.ok _).cong fun _ => rfl
theorem ext_store (f : Nat) : Ext (fun ts => (pO (f + 1) ts).bind fun a r => (expect [46] r).bind fun _ r => (word 2 r).bind fun n r => (expect [61] r).bind fun _ r => (pE f 0 r).bind fun b r => (.ok (.mk 2 n [a, b] [] []) r : R S)) :=
  (ext_all (f + 1)).pO.bind fun _ => (ext_expect [46]).bind fun _ => (ext_word 2).bind fun _ => (ext_expect [61]).bind fun _ => ((ext_all f).pE 0).bind fun _ => Ext.ok _
theorem ext_last (f : Nat) : Ext (fun ts => if (ts.headD default).kind = 2 ∧ is [61] ts.tail = true then pSet f 1 ts else (pO (f + 1) ts).bind fun a r => (expect [46] r).bind fun _ r => (word 2 r).bind fun n r => (expect [61] r).bind fun _ r => (pE f 0 r).bind fun b r => (.ok (.mk 2 n [a, b] [] []) r : R S)) := by
  have hs := ext_store f
  refine ⟨hs.1, fun ts suf hr => ?_⟩
  cases ts with
  | nil => exact absurd hs.1 hr
  | cons x r =>
    cases r with
    | nil =>
      have hr1 := hr
      have hc : ¬ (x.kind = 2 ∧ is [61] [] = true) := fun h => absurd h.2 (by decide)
      have hr : R.rest (if x.kind = 2 ∧ is [61] [] = true then pSet f 1 [x] else (pO (f + 1) [x]).bind fun a r => (expect [46] r).bind fun _ r => (word 2 r).bind fun n r => (expect [61] r).bind fun _ r => (pE f 0 r).bind fun b r => (.ok (.mk 2 n [a, b] [] []) r : R S)) ≠ [] := hr
      rw [if_neg hc] at hr
      by_cases h2 : x.kind = 2
      · refine absurd ?_ hr
        have : pO (f + 1) [x] = .ok (var ⟨x.text.toArray⟩) [] := by rw [pO_s, if_neg (by omega), if_pos h2]
        rw [this]
        rfl
      · show (if x.kind = 2 ∧ is [61] suf = true then _ else _) = R.app (if x.kind = 2 ∧ is [61] [] = true then _ else _) suf
        rw [if_neg (fun h => h2 h.1), if_neg hc]
        exact hs.2 [x] suf hr
    | cons y r =>
      show (if x.kind = 2 ∧ is [61] (y :: r) = true then pSet f 1 (x :: y :: r ++ suf) else _) = R.app (if x.kind = 2 ∧ is [61] (y :: r) = true then pSet f 1 (x :: y :: r) else _) suf
      have hr : R.rest (if x.kind = 2 ∧ is [61] (y :: r) = true then pSet f 1 (x :: y :: r) else _) ≠ [] := hr
      by_cases hc : x.kind = 2 ∧ is [61] (y :: r) = true
      · rw [if_pos hc] at hr
        rw [if_pos hc, if_pos hc]
        exact (ext_pSet f 1).2 _ suf hr
      · rw [if_neg hc] at hr
        rw [if_neg hc, if_neg hc]
        exact hs.2 _ suf hr
theorem ext_pSimple (f : Nat) : Ext (pSimple f) := by
  have e0 := fun lv => (ext_all f).pE lv
  have h1 : Ext (fun ts => (pE f 0 ts).bind fun e r => (.ok (.mk 6 ⟨#[]⟩ [e] [] []) r : R S)) := (e0 0).bind fun _ => Ext.ok _
  have h2 : Ext (fun ts => (pE f 0 ts).bind fun a r => (expect [116, 111] r).bind fun _ r => (pE f 0 r).bind fun b r => (.ok (.mk 7 ⟨#[]⟩ [a, b] [] []) r : R S)) := (e0 0).bind fun _ => (ext_expect [116, 111]).bind fun _ => (e0 0).bind fun _ => Ext.ok _
  have h3 : Ext (fun ts => (pE f 0 ts).bind fun a r => (expect [98, 121] r).bind fun _ r => (word 2 r).bind fun n r => (expect [40] r).bind fun _ r => (pE f 0 r).bind fun b r => (expect [41] r).bind fun _ r => (.ok (.mk 8 n [a, b] [] []) r : R S)) :=
    (e0 0).bind fun _ => (ext_expect [98, 121]).bind fun _ => (ext_word 2).bind fun _ => (ext_expect [40]).bind fun _ => (e0 0).bind fun _ => (ext_expect [41]).bind fun _ => Ext.ok _
  have h4 : Ext (fun ts => (pO f ts).bind fun a r => (expect [46] r).bind fun _ r => (word 2 r).bind fun n r => pSend f a n r) := (ext_all f).pO.bind fun a => (ext_expect [46]).bind fun _ => (ext_word 2).bind fun n => ext_pSend f a n
  exact (Ext.ite (t := [108, 101, 116]) (ext_pSet f 0) (Ext.ite (t := [115, 101, 110, 100]) h4 (Ext.ite (t := [112, 114, 105, 110, 116]) h1 (Ext.ite (t := [109, 111, 118, 101]) h2 (Ext.ite (t := [119, 97, 116, 99, 104]) h3 (Ext.ite (t := [114, 101, 116, 117, 114, 110]) (p := fun ts => (.ok (.mk 9 ⟨#[]⟩ [] [] []) ts : R S)) (Ext.ok _) (ext_last f))))))).cong fun _ => rfl
theorem ext_S : ∀ f, Ext (pS f) ∧ Ext (pB f) ∧ ∀ l, Ext (pSs f l)
  | 0 => ⟨Ext.bad.cong fun ts => by rw [pS], Ext.bad.cong fun ts => by rw [pB], fun l => Ext.bad.cong fun ts => by rw [pSs]⟩
  | f + 1 => by
    obtain ⟨hS, hB, hL⟩ := ext_S f
    have e0 := (ext_all f).pE 0
    refine ⟨?_, ((ext_expect [123]).bind fun _ => hL []).cong (pB_s f), fun l => (Ext.ite (p := fun ts => .ok l ts) (Ext.ok l) (hS.bind fun s => hL _)).cong (pSs_s f l)⟩
    have hif : Ext (fun ts => (pE f 0 ts).bind fun e r => (pB f r).bind fun b r => if is [101, 108, 115, 101] r then (pB f r.tail).bind fun l r => .ok (.mk 3 ⟨#[]⟩ [e] b l) r else (.ok (.mk 3 ⟨#[]⟩ [e] b []) r : R S)) :=
      e0.bind fun e => hB.bind fun b => Ext.ite (t := [101, 108, 115, 101]) (p := fun ts => (pB f ts).bind fun l r => (.ok (.mk 3 ⟨#[]⟩ [e] b l) r : R S)) (hB.bind fun _ => Ext.ok _) (Ext.ok _)
    have hwh : Ext (fun ts => (pE f 0 ts).bind fun e r => (pB f r).bind fun b r => (.ok (.mk 4 ⟨#[]⟩ [e] b []) r : R S)) := e0.bind fun _ => hB.bind fun _ => Ext.ok _
    have hsm : Ext (fun ts => (pSimple f ts).bind fun s r => (expect [59] r).bind fun _ r => .ok s r) := (ext_pSimple f).bind fun s => (ext_expect [59]).bind fun _ => Ext.ok s
    exact (Ext.ite (t := [105, 102]) hif (Ext.ite (t := [119, 104, 105, 108, 101]) hwh hsm)).cong (pS_s f)
/-! ### classes -/
theorem ext_fields : ∀ (f : Nat) (l : List ByteArray), Ext (pFields f l)
  | 0, l => Ext.bad.cong fun ts => by rw [pFields]
  | f + 1, l => (Ext.ite (p := fun ts => (word 2 ts).bind fun n r => (expect [59] r).bind fun _ r => pFields f (l ++ [n]) r) ((ext_word 2).bind fun n => (ext_expect [59]).bind fun _ => ext_fields f _) (Ext.ok l)).cong (pFields_s f l)
theorem ext_param : ∀ (f : Nat) (l : List ByteArray), Ext (pParam f l)
  | 0, l => Ext.bad.cong fun ts => by rw [pParam]
  | f + 1, l => (Ext.ite (p := fun ts => (word 2 ts).bind fun n r => pParam f (l ++ [n]) r) ((ext_word 2).bind fun n => ext_param f _) ((ext_expect [41]).bind fun _ => Ext.ok l)).cong (pParam_s f l)
theorem ext_params (f : Nat) : Ext (pParams f) :=
  ((ext_expect [40]).bind fun _ => Ext.ite (p := fun r => .ok [] r) (Ext.ok []) ((ext_word 2).bind fun n => ext_param f [n])).cong fun _ => rfl
theorem ext_methods : ∀ (f : Nat) (l : List M), Ext (pMs f l)
  | 0, l => Ext.bad.cong fun ts => by rw [pMs]
  | f + 1, l => (Ext.ite (p := fun ts => (word 2 ts).bind fun n r => (pParams f r).bind fun p r => (pB f r).bind fun b r => pMs f (l ++ [⟨n, p, b⟩]) r) ((ext_word 2).bind fun n => (ext_params f).bind fun p => (ext_S f).2.1.bind fun b => ext_methods f _) (Ext.ok l)).cong (pMs_s f l)
/-- a class behind its first word -/
def pC' (f : Nat) (ac : Bool) (ts : Toks) : R C := (word 3 ts).bind fun n r => (expect [123] r).bind fun _ r => (pFields f [] r).bind fun fs r =>
    (if ac then pMs f [] r else .ok [] r).bind fun ms r => (expect [125] r).bind fun _ r => .ok ⟨n, ac, fs, ms⟩ r
theorem pC_eq (f : Nat) (ts : Toks) : pC f ts = if is [97, 99, 116, 111, 114] ts then pC' f true ts.tail else (expect [114, 101, 99, 111, 114, 100] ts).bind fun _ r => pC' f false r := by
  unfold pC pC'
  cases is [97, 99, 116, 111, 114] ts <;> rfl
theorem ext_pC' (f : Nat) (ac : Bool) : Ext (pC' f ac) := by
  refine (ext_word 3).bind fun n => (ext_expect [123]).bind fun _ => (ext_fields f []).bind fun fs => Ext.bind ?_ fun ms => (ext_expect [125]).bind fun _ => Ext.ok _
  cases ac with
  | true => exact ext_methods f []
  | false => exact Ext.ok []
theorem ext_pC (f : Nat) : Ext (pC f) := (Ext.ite (ext_pC' f true) ((ext_expect [114, 101, 99, 111, 114, 100]).bind fun _ => ext_pC' f false)).cong (pC_eq f)
/-- a class ends with a brace: what follows is of no matter -/
theorem pC_closed (f : Nat) (ts suf : Toks) (c : C) (h : pC f ts = .ok c []) : pC f (ts ++ suf) = .ok c suf := by
  have key : ∀ (ac : Bool) (ts : Toks), pC' f ac ts = .ok c [] → pC' f ac (ts ++ suf) = .ok c suf := by
    intro ac ts h
    have hx : Ext (fun ts => (word 3 ts).bind fun n r => (expect [123] r).bind fun _ r => (pFields f [] r).bind fun fs r => (if ac then pMs f [] r else .ok [] r).bind fun ms r => (.ok (⟨n, ac, fs, ms⟩ : C) r : R C)) := by
      refine (ext_word 3).bind fun n => (ext_expect [123]).bind fun _ => (ext_fields f []).bind fun fs => Ext.bind ?_ fun ms => Ext.ok _
      cases ac with
      | true => exact ext_methods f []
      | false => exact Ext.ok []
    obtain ⟨q, hq⟩ : ∃ q : Toks → R C, q = fun ts => (word 3 ts).bind fun n r => (expect [123] r).bind fun _ r => (pFields f [] r).bind fun fs r => (if ac then pMs f [] r else .ok [] r).bind fun ms r => (.ok (⟨n, ac, fs, ms⟩ : C) r : R C) := ⟨_, rfl⟩
    have assoc : ∀ {α β γ : Type} (x : R α) (g : α → Toks → R β) (k : β → Toks → R γ), ((x.bind g).bind k) = x.bind fun a r => (g a r).bind k := fun x g k => by cases x <;> rfl
    have hpc : ∀ ts, pC' f ac ts = (q ts).bind fun c r => (expect [125] r).bind fun _ r => .ok c r := fun ts => by
      rw [hq]
      show pC' f ac ts = ((word 3 ts).bind _).bind _
      unfold pC'
      rw [assoc]
      congr 1
      funext n r
      rw [assoc]
      congr 1
      funext _ r
      rw [assoc]
      congr 1
      funext fs r
      rw [assoc]
      congr 1
    rw [← hq] at hx
    rw [hpc] at h ⊢
    cases hv : q ts with
    | bad r => rw [hv] at h; cases h
    | ok c0 r =>
      rw [hv] at h
      have h : (expect [125] r).bind (fun _ r => .ok c0 r) = R.ok c [] := h
      have hne : r ≠ [] := fun e => by subst e; cases h
      have := hx.2 ts suf (by rw [hv]; exact hne)
      rw [this, hv]
      show (expect [125] (r ++ suf)).bind (fun _ r => R.ok c0 r) = _
      unfold expect at h ⊢
      rw [is_app suf hne]
      cases hc : is [125] r with
      | false => rw [hc] at h; cases h
      | true =>
        rw [hc, if_pos rfl] at h
        rw [if_pos rfl]
        cases r with
        | nil => exact absurd rfl hne
        | cons x r2 =>
          have h : R.ok c0 r2 = R.ok c [] := h
          injection h with e1 e2
          subst e1
          subst e2
          rfl
  rw [pC_eq] at h ⊢
  cases ts with
  | nil =>
    have h : R.bad [] = R.ok c [] := h
    cases h
  | cons x r =>
    show (if is [97, 99, 116, 111, 114] (x :: r) = true then pC' f true (r ++ suf) else (expect [114, 101, 99, 111, 114, 100] (x :: r ++ suf)).bind fun _ r => pC' f false r) = _
    have h : (if is [97, 99, 116, 111, 114] (x :: r) = true then pC' f true r else (expect [114, 101, 99, 111, 114, 100] (x :: r)).bind fun _ r => pC' f false r) = _ := h
    by_cases hc : is [97, 99, 116, 111, 114] (x :: r) = true
    · rw [if_pos hc] at h ⊢
      exact key true r h
    · rw [if_neg hc] at h ⊢
      unfold expect at h ⊢
      show R.bind (if is [114, 101, 99, 111, 114, 100] (x :: r) = true then R.ok () (r ++ suf) else R.bad _) _ = _
      have h : R.bind (if is [114, 101, 99, 111, 114, 100] (x :: r) = true then R.ok () r else R.bad _) _ = _ := h
      by_cases hc2 : is [114, 101, 99, 111, 114, 100] (x :: r) = true
      · rw [if_pos hc2] at h ⊢
        exact key false r h
      · rw [if_neg hc2] at h
        cases h
end Pa
end Go.Proofs.YtdckddkalgnlpaaGreatDoor
