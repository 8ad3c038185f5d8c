/-
  The lines of a valid program's text: how deep each one is, how it begins, how it ends. No program in sight.
-/
import Derived.Test.YtlgfickhkejdjaaGreatDoorMSyFew
import Derived.Test.YtlgfickhkejdjaaGreatDoorMSySpoil
import Derived.Test.YtlgfickhkejdjaaGreatDoorMSyRefSt
namespace Go.Proofs.YtlgfickhkejdjaaGreatDoor
namespace Sy
open Tr
/-- neither a line feed nor a closing brace -/
def okb (b : UInt8) : Bool := b != 10 && b != 125
def Cl (s : Bytes) : Prop := ∀ b ∈ s, okb b = true
/-- such bytes alone, the first of them not a space -/
def Good (s : Bytes) : Prop := Cl s ∧ ∃ b r, s = b :: r ∧ b ≠ 32
theorem Cl.app {a b : Bytes} (h1 : Cl a) (h2 : Cl b) : Cl (a ++ b) := fun x hx => (List.mem_append.1 hx).elim (h1 x) (h2 x)
theorem Good.app {a b : Bytes} (h1 : Good a) (h2 : Cl b) : Good (a ++ b) := by
  obtain ⟨h, x, r, rfl, hx⟩ := h1
  exact ⟨h.app h2, x, r ++ b, rfl, hx⟩
theorem cl_of {s : Bytes} (h : s.all okb = true) : Cl s := fun b hb => List.all_eq_true.1 h b hb
theorem good_of {s : Bytes} (h : s.all okb = true) (h2 : s.headD 32 ≠ 32) : Good s := by
  refine ⟨cl_of h, ?_⟩
  cases s with
  | nil => exact absurd rfl h2
  | cons b r => exact ⟨b, r, rfl, h2⟩
theorem par_good {r : Nat} {x : Nat × Bytes} (h : Good x.2) : Good (par r x) := by
  unfold par
  split
  · exact ((good_of (by decide) (by decide)).app h.1).app (cl_of (by decide))
  · exact h
theorem commas_cl : ∀ l : List Bytes, (∀ x ∈ l, Cl x) → Cl (commas l)
  | [], _ => fun _ h => by simp [commas] at h
  | [x], h => h x (by simp)
  | x :: y :: r, h => ((h x (by simp)).app (cl_of (by decide))).app (commas_cl (y :: r) fun z hz => h z (by simp at hz ⊢; exact .inr hz))
theorem wordc_ok {c : UInt8} (h : Lex.wordc c = true) : okb c = true ∧ c ≠ 32 := by
  have h2 := wordc_cases h
  have e1 : c ≠ 10 := by rintro rfl; revert h2; decide
  have e2 : c ≠ 125 := by rintro rfl; revert h2; decide
  have e3 : c ≠ 32 := by rintro rfl; revert h2; decide
  exact ⟨by unfold okb; simp [e1, e2], e3⟩
theorem name_good {lo hi : Nat} {l : Bytes} (h : nameL lo hi l = true) : Good l := by
  unfold nameL at h
  rw [Bool.and_eq_true, Bool.and_eq_true, decide_eq_true_eq] at h
  have hw := List.all_eq_true.1 h.2
  refine ⟨fun b hb => (wordc_ok (hw b hb)).1, ?_⟩
  cases l with
  | nil => exact absurd rfl h.1.1.1
  | cons b r => exact ⟨b, r, rfl, (wordc_ok (hw b (by simp))).2⟩
theorem var_good {s : ByteArray} (h : varB s = true) : Good s.data.toList := name_good h
theorem cls_good {s : ByteArray} (h : clsB s = true) : Good s.data.toList := name_good h
theorem dec_good (n : Nat) : Good (dec n) := by
  have hw : ∀ c ∈ dec n, Lex.wordc c = true := fun c hc => by
    unfold Lex.wordc
    rw [dec_all n c hc]
    simp
  refine ⟨fun b hb => (wordc_ok (hw b hb)).1, ?_⟩
  cases hd : dec n with
  | nil => exact absurd hd (dec_ne n)
  | cons b r => exact ⟨b, r, rfl, (wordc_ok (hw b (by rw [hd]; simp))).2⟩
theorem sym_cl (o : Int) : Cl (sym o) := by
  have key : ∀ (c : Prop) [Decidable c] (a b : Bytes), Cl a → Cl b → Cl (if c then a else b) := fun c _ a b ha hb => by split <;> assumption
  unfold sym
  repeat' refine key _ _ _ ?_ ?_
  all_goals exact cl_of (by decide)
theorem texts_len (l : List E) : (texts l).length = l.length := by rw [texts_map, List.length_map]
theorem node_good {k o i : Int} {nm : ByteArray} {a : Bool} {ts : List (Nat × Bytes)} (h : okE k o i nm a ts.length = true) (hts : ∀ t ∈ ts, Good t.2) : Good (node k o i nm.data.toList a ts) := by
  rcases okE_forms h with ⟨rfl, _, _, _⟩ | ⟨rfl, _⟩ | ⟨rfl, _⟩ | ⟨rfl, _⟩ | ⟨rfl, hn⟩ | ⟨rfl, ha⟩ | ⟨rfl, hn⟩ | ⟨rfl, hn⟩ | ⟨rfl, hn⟩ | ⟨rfl, hn⟩ | ⟨rfl, hn, _, _⟩
  · exact dec_good _
  · exact good_of (s := [110, 105, 108]) (by decide) (by decide)
  · exact good_of (s := [116, 104, 105, 115]) (by decide) (by decide)
  · exact var_good (okE_name3 h)
  · obtain ⟨x, rfl⟩ := one_of hn
    exact ((par_good (hts x (by simp))).app (cl_of (by decide))).app (var_good (okE_name4 h)).1
  · have hnm := (cls_good (okE_name5 h)).1
    cases a with
    | false =>
      show Good ([110, 101, 119, 32] ++ nm.data.toList ++ [40] ++ commas (ts.map Prod.snd) ++ [41])
      refine ((((good_of (by decide) (by decide)).app hnm).app (cl_of (by decide))).app (commas_cl _ ?_)).app (cl_of (by decide))
      intro x hx
      obtain ⟨t, ht, rfl⟩ := List.mem_map.1 hx
      exact (hts t ht).1
    | true =>
      show Good ([110, 101, 119, 32] ++ nm.data.toList ++ [40] ++ commas (ts.dropLast.map Prod.snd) ++ [41, 32, 97, 116, 32] ++ par 7 (ts.getLastD (9, [])))
      refine (((((good_of (by decide) (by decide)).app hnm).app (cl_of (by decide))).app (commas_cl _ ?_)).app (cl_of (by decide))).app (par_good ?_).1
      · intro x hx
        obtain ⟨t, ht, rfl⟩ := List.mem_map.1 hx
        exact (hts t (List.dropLast_subset _ ht)).1
      · have hpos := ha rfl
        have hne : ts ≠ [] := by rintro rfl; simp at hpos
        rcases List.eq_nil_or_concat ts with rfl | ⟨r, y, rfl⟩
        · exact absurd rfl hne
        · rw [List.concat_eq_append, List.getLastD_concat]
          exact hts y (by simp)
  · obtain ⟨x, rfl⟩ := one_of hn
    exact (good_of (s := [119, 101, 97, 107, 32]) (by decide) (by decide)).app (par_good (hts x (by simp))).1
  · obtain ⟨x, rfl⟩ := one_of hn
    exact (good_of (s := [103, 101, 116, 32]) (by decide) (by decide)).app (par_good (hts x (by simp))).1
  · obtain ⟨x, rfl⟩ := one_of hn
    exact (good_of (s := [45]) (by decide) (by decide)).app (par_good (hts x (by simp))).1
  · obtain ⟨x, rfl⟩ := one_of hn
    exact (good_of (s := [110, 111, 116, 32]) (by decide) (by decide)).app (par_good (hts x (by simp))).1
  · obtain ⟨x, y, rfl⟩ := two_of hn
    exact ((((par_good (hts x (by simp))).app (cl_of (by decide))).app (sym_cl o)).app (cl_of (by decide))).app (par_good (hts y (by simp))).1
mutual
theorem text_good : ∀ e : E, validE e = true → Good (text e)
  | .mk k o i nm a l, h => by
    rw [validE, Bool.and_eq_true] at h
    rw [text]
    exact node_good (by rw [texts_len]; exact h.2) (texts_good l h.1)
theorem texts_good : ∀ l : List E, validEs l = true → ∀ t ∈ texts l, Good t.2
  | [], _ => fun t ht => by simp [texts] at ht
  | e :: r, h => fun t ht => by
    rw [validEs, Bool.and_eq_true] at h
    rw [texts] at ht
    rcases List.mem_cons.1 ht with rfl | ht
    · exact text_good e h.1
    · exact texts_good r h.2 t ht
end

/-! ### lines -/
/-- a line: how deep, what it says -/
abbrev Ln := Nat × Bytes
def lnT (x : Ln) : Bytes := ind x.1 ++ x.2
def lns (l : List Ln) : Bytes := (l.map fun x => lnT x ++ [10]).flatten
theorem lns_app (a b : List Ln) : lns (a ++ b) = lns a ++ lns b := by unfold lns; rw [List.map_append, List.flatten_append]
theorem lns_one (d : Nat) (s : Bytes) : lns [(d, s)] = line d s := by simp [lns, lnT, line]
/-- lines that lead from so many open blocks to so many -/
inductive Run : Nat → List Ln → Nat → Prop
  | nil (d : Nat) : Run d [] d
  | plain {d e : Nat} {l : List Ln} (t : Bytes) (h : Good t) (hr : Run d l e) : Run d ((d, t ++ [59]) :: l) e
  | opens {d e : Nat} {l : List Ln} (t : Bytes) (h : Good t) (hr : Run (d + 1) l e) : Run d ((d, t ++ [123]) :: l) e
  | other {d e : Nat} {l : List Ln} (hr : Run (d + 1) l e) : Run (d + 1) ((d, [125, 32, 101, 108, 115, 101, 32, 123]) :: l) e
  | closes {d e : Nat} {l : List Ln} (hr : Run d l e) : Run (d + 1) ((d, [125]) :: l) e
theorem Run.app {d e f : Nat} {a b : List Ln} (h1 : Run d a e) (h2 : Run e b f) : Run d (a ++ b) f := by
  induction h1 with
  | nil d => exact h2
  | plain t h _ ih => exact .plain t h (ih h2)
  | opens t h _ ih => exact .opens t h (ih h2)
  | other _ ih => exact .other (ih h2)
  | closes _ ih => exact .closes (ih h2)
/-- a text is lines that lead so -/
def Lines (d : Nat) (s : Bytes) (e : Nat) : Prop := ∃ l, s = lns l ∧ Run d l e
theorem Lines.app {d e f : Nat} {a b : Bytes} (h1 : Lines d a e) (h2 : Lines e b f) : Lines d (a ++ b) f := by
  obtain ⟨l, rfl, r1⟩ := h1
  obtain ⟨m, rfl, r2⟩ := h2
  exact ⟨l ++ m, (lns_app l m).symm, r1.app r2⟩
theorem Lines.nil (d : Nat) : Lines d [] d := ⟨[], rfl, .nil d⟩
theorem lines_plain (d : Nat) {t : Bytes} (h : Good t) : Lines d (line d (t ++ [59])) d := ⟨_, (lns_one _ _).symm, .plain t h (.nil d)⟩
theorem lines_opens (d : Nat) {t : Bytes} (h : Good t) : Lines d (line d (t ++ [123])) (d + 1) := ⟨_, (lns_one _ _).symm, .opens t h (.nil _)⟩
theorem lines_other (d : Nat) : Lines (d + 1) (line d [125, 32, 101, 108, 115, 101, 32, 123]) (d + 1) := ⟨_, (lns_one _ _).symm, .other (.nil _)⟩
theorem lines_closes (d : Nat) : Lines (d + 1) (line d [125]) d := ⟨_, (lns_one _ _).symm, .closes (.nil _)⟩
theorem okS_name {k : Int} {nm : ByteArray} {n nb ne : Nat} (h : okS k nm n nb ne = true) (hk : k = 0 ∨ k = 1 ∨ k = 2 ∨ k = 5 ∨ k = 8) : varB nm = true := by
  rcases hk with rfl | rfl | rfl | rfl | rfl
  · rw [okS_0, Bool.and_eq_true] at h; exact h.2
  · rw [okS_1, Bool.and_eq_true] at h; exact h.2
  · rw [okS_2, Bool.and_eq_true] at h; exact h.2
  · rw [okS_5, Bool.and_eq_true] at h; exact h.2
  · rw [okS_8, Bool.and_eq_true] at h; exact h.2
theorem simple_good {k : Int} {nm : ByteArray} {ts : List (Nat × Bytes)} {nb ne : Nat} (h : okS k nm ts.length nb ne = true) (h3 : k ≠ 3) (h4 : k ≠ 4) (hts : ∀ t ∈ ts, Good t.2) : Good (simple k nm.data.toList ts) := by
  rcases okS_nums h with ⟨rfl, hn⟩ | ⟨rfl, hn⟩ | ⟨rfl, hn⟩ | ⟨rfl, hn⟩ | ⟨rfl, hn⟩ | ⟨rfl, hn⟩ | ⟨rfl, hn⟩ | ⟨rfl, hn⟩ | ⟨rfl, hn⟩ | ⟨rfl, hn⟩
  · have hnm := var_good (okS_name h (by simp))
    obtain ⟨x, rfl⟩ := one_of hn
    exact (((good_of (s := [108, 101, 116, 32]) (by decide) (by decide)).app hnm.1).app (cl_of (by decide))).app (hts x (by simp)).1
  · have hnm := var_good (okS_name h (by simp))
    obtain ⟨x, rfl⟩ := one_of hn
    exact (hnm.app (cl_of (by decide))).app (hts x (by simp)).1
  · have hnm := var_good (okS_name h (by simp))
    obtain ⟨x, y, rfl⟩ := two_of hn
    exact ((((par_good (hts x (by simp))).app (cl_of (by decide))).app hnm.1).app (cl_of (by decide))).app (hts y (by simp)).1
  · exact absurd rfl h3
  · exact absurd rfl h4
  · have hnm := var_good (okS_name h (by simp))
    cases ts with
    | nil => simp at hn
    | cons x r =>
      refine ((((((good_of (s := [115, 101, 110, 100, 32]) (by decide) (by decide)).app (par_good (hts x (by simp))).1).app (cl_of (by decide))).app hnm.1).app (cl_of (by decide))).app (commas_cl _ ?_)).app (cl_of (by decide))
      intro z hz
      obtain ⟨t, ht, rfl⟩ := List.mem_map.1 hz
      exact (hts t (List.mem_cons_of_mem _ ht)).1
  · obtain ⟨x, rfl⟩ := one_of hn
    exact (good_of (s := [112, 114, 105, 110, 116, 32]) (by decide) (by decide)).app (hts x (by simp)).1
  · obtain ⟨x, y, rfl⟩ := two_of hn
    exact (((good_of (s := [109, 111, 118, 101, 32]) (by decide) (by decide)).app (hts x (by simp)).1).app (cl_of (by decide))).app (hts y (by simp)).1
  · have hnm := var_good (okS_name h (by simp))
    obtain ⟨x, y, rfl⟩ := two_of hn
    exact ((((((good_of (s := [119, 97, 116, 99, 104, 32]) (by decide) (by decide)).app (hts x (by simp)).1).app (cl_of (by decide))).app hnm.1).app (cl_of (by decide))).app (hts y (by simp)).1).app (cl_of (by decide))
  · exact good_of (s := [114, 101, 116, 117, 114, 110]) (by decide) (by decide)
theorem stmtT_lines {d : Nat} {k : Int} {nm : ByteArray} {ts : List (Nat × Bytes)} {body els : Bytes} {other : Bool} {nb ne : Nat} (h : okS k nm ts.length nb ne = true) (hts : ∀ t ∈ ts, Good t.2) (hb : Lines (d + 1) body (d + 1)) (he : Lines (d + 1) els (d + 1)) :
    Lines d (stmtT d k nm.data.toList ts body els other) d := by
  by_cases h3 : k = 3
  · subst h3
    rw [okS_3, decide_eq_true_eq] at h
    obtain ⟨x, rfl⟩ := one_of h.1
    have hx := hts x (by simp)
    have h1 : Lines d (line d ([105, 102, 32] ++ x.2 ++ [32, 123])) (d + 1) := by
      have := lines_opens d (((good_of (s := [105, 102, 32]) (by decide) (by decide)).app hx.1).app (cl_of (s := [32]) (by decide)))
      rwa [List.append_assoc] at this
    show Lines d (line d ([105, 102, 32] ++ x.2 ++ [32, 123]) ++ body ++ (if other then line d [125, 32, 101, 108, 115, 101, 32, 123] ++ els else []) ++ line d [125]) d
    refine ((h1.app hb).app ?_).app (lines_closes d)
    cases other with
    | false => exact .nil _
    | true => exact (lines_other d).app he
  · by_cases h4 : k = 4
    · subst h4
      rw [okS_4, decide_eq_true_eq] at h
      obtain ⟨x, rfl⟩ := one_of h.1
      have hx := hts x (by simp)
      have h1 : Lines d (line d ([119, 104, 105, 108, 101, 32] ++ x.2 ++ [32, 123])) (d + 1) := by
        have := lines_opens d (((good_of (s := [119, 104, 105, 108, 101, 32]) (by decide) (by decide)).app hx.1).app (cl_of (s := [32]) (by decide)))
        rwa [List.append_assoc] at this
      exact (h1.app hb).app (lines_closes d)
    · unfold stmtT
      rw [if_neg h3, if_neg h4]
      exact lines_plain d (simple_good h h3 h4 hts)
mutual
theorem stmt_lines : ∀ (s : S) (d : Nat), validS s = true → Lines d (stmt d s) d
  | .mk k nm x b l, d, h => by
    rw [validS, Bool.and_eq_true, Bool.and_eq_true, Bool.and_eq_true] at h
    rw [stmt]
    exact stmtT_lines (by rw [texts_len]; exact h.1.1.2) (texts_good x h.1.1.1) (stmts_lines b (d + 1) h.1.2) (stmts_lines l (d + 1) h.2)
theorem stmts_lines : ∀ (l : List S) (d : Nat), validSs l = true → Lines d (stmts d l) d
  | [], d, _ => by rw [stmts]; exact .nil d
  | s :: r, d, h => by
    rw [validSs, Bool.and_eq_true] at h
    rw [stmts]
    exact (stmt_lines s d h.1).app (stmts_lines r d h.2)
end
theorem flat_lines {α : Type} (f : α → Bytes) (d : Nat) : ∀ l : List α, (∀ x ∈ l, Lines d (f x) d) → Lines d (l.map f).flatten d
  | [], _ => .nil d
  | x :: r, h => by
    rw [List.map_cons, List.flatten_cons]
    exact (h x (by simp)).app (flat_lines f d r fun y hy => h y (by simp [hy]))
theorem method_lines {m : M} (h : validM m = true) : Lines 1 (methodT m) 1 := by
  unfold validM at h
  rw [Bool.and_eq_true, Bool.and_eq_true] at h
  have hnm := var_good h.1.1
  have h1 : Lines 1 (line 1 ([111, 110, 32] ++ m.name.data.toList ++ [40] ++ commas (m.params.map (·.data.toList)) ++ [41, 32, 123])) 2 := by
    have hc : Cl (commas (m.params.map (·.data.toList))) := commas_cl _ fun z hz => by
      obtain ⟨t, ht, rfl⟩ := List.mem_map.1 hz
      exact (var_good (List.all_eq_true.1 h.1.2 t ht)).1
    have := lines_opens 1 (((((good_of (s := [111, 110, 32]) (by decide) (by decide)).app hnm.1).app (cl_of (s := [40]) (by decide))).app hc).app (cl_of (s := [41, 32]) (by decide)))
    rwa [List.append_assoc] at this
  exact (h1.app (stmts_lines m.body 2 h.2)).app (lines_closes 1)
theorem class_lines {c : C} (h : validC c = true) : Lines 0 (classT c) 0 := by
  unfold validC at h
  rw [Bool.and_eq_true, Bool.and_eq_true, Bool.and_eq_true] at h
  have hnm := cls_good h.1.1.1
  have h1 : Lines 0 (line 0 ((if c.actor then [97, 99, 116, 111, 114, 32] else [114, 101, 99, 111, 114, 100, 32]) ++ c.name.data.toList ++ [32, 123])) 1 := by
    have hg : Good (if c.actor then [97, 99, 116, 111, 114, 32] else [114, 101, 99, 111, 114, 100, 32]) := by split <;> exact good_of (by decide) (by decide)
    have := lines_opens 0 ((hg.app hnm.1).app (cl_of (s := [32]) (by decide)))
    rwa [List.append_assoc] at this
  refine ((h1.app (flat_lines fieldT 1 _ fun s hs => ?_)).app (flat_lines methodT 1 _ fun m hm => method_lines (List.all_eq_true.1 h.2 m hm))).app (lines_closes 0)
  exact lines_plain 1 ((good_of (s := [118, 97, 114, 32]) (by decide) (by decide)).app (var_good (List.all_eq_true.1 h.1.1.2 s hs)).1)
theorem prog_lines {l : List C} (h : validP l = true) : Lines 0 (progT l) 0 := flat_lines classT 0 _ fun c hc => class_lines (List.all_eq_true.1 h c hc)
end Sy
end Go.Proofs.YtlgfickhkejdjaaGreatDoor
