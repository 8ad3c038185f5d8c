/-
  Several texts in one: CkSpec, CkPlain, CkSet, CkPlace, CkProgA, CkProgB, CkRows.
-/
import Derived.Test.YtdafdbjdnebnfaaGreatDoorTrA
import Derived.Test.YtdafdbjdnebnfaaGreatDoorLexB
import Derived.Maps.OwnSet
import Derived.StringKeys
import Derived.OneCell
import Derived.Test.YtdafdbjdnebnfaaGreatDoorTrProgA
import Derived.Deep.RegionHeld3
import Derived.IntWalk
import Derived.Laws.AppendOwn
namespace Go.Proofs.YtdafdbjdnebnfaaGreatDoor
namespace Ck
open Tr
abbrev Str := ByteArray

/-- the index of the first class of a name -/
def classAt (cs : List C) (nm : Str) : Option Nat := cs.findIdx? fun c => decide (c.name = nm)
def methodAt (ms : List M) (nm : Str) : Option Nat := ms.findIdx? fun m => decide (m.name = nm)
def hasS (l : List Str) (s : Str) : Bool := l.any fun x => decide (x = s)
/-- does a list hold a string twice -/
def twice : List Str → Bool
  | [] => false
  | s :: r => hasS r s || twice r
mutual
def letsS : S → Nat
  | .mk k _ _ b l => (if k = 0 then 1 else 0) + lets b + lets l
def lets : List S → Nat
  | [] => 0
  | s :: r => letsS s + lets r
end
def headKind : List E → Int
  | [] => -1
  | e :: _ => e.kind
/-- the faults of an expression's own fields: t is a line of the table -/
def ownE (cs : List C) (fs : List Str) (vars : List Str) (k : Int) (nm : Str) (a : Bool) (args : List E) (t : Nat) : Bool :=
  if k = 3 then t == 7 && !hasS vars nm
  else if k = 4 then t == 10 && decide (headKind args = 2) && !hasS fs nm
  else if k = 5 then
    match classAt cs nm with
    | none => t == 8
    | some i => t == 9 && decide (((cs[i]?.map fun c => c.fields.length).getD 0 : Int) < (args.length : Int) - (if a then 1 else 0))
  else false
mutual
def faultE (cs : List C) (fs : List Str) (vars : List Str) : E → Nat → Bool
  | .mk k _ _ nm a l, t => ownE cs fs vars k nm a l t || faultEs cs fs vars l t
def faultEs (cs : List C) (fs : List Str) (vars : List Str) : List E → Nat → Bool
  | [], _ => false
  | e :: r, t => faultE cs fs vars e t || faultEs cs fs vars r t
end
def ownS (c : C) (vars : List Str) (k : Int) (nm : Str) (x : List E) (t : Nat) : Bool :=
  if k = 0 then t == 6 && hasS vars nm
  else if k = 1 then t == 7 && !hasS vars nm
  else if k = 2 then t == 10 && decide (headKind x = 2) && !hasS c.fields nm
  else if k = 8 then
    match methodAt c.methods nm with
    | none => t == 11
    | some i => t == 12 && decide ((c.methods[i]?.map fun m => m.params.length).getD 0 ≠ 1)
  else false
def addVar (k : Int) (nm : Str) (vars : List Str) : List Str := if k = 0 then vars ++ [nm] else vars
mutual
def faultS (cs : List C) (c : C) : S → List Str → Nat → Bool
  | .mk k nm x b l, vars, t => faultEs cs c.fields vars x t || ownS c vars k nm x t || faultSs cs c b (addVar k nm vars) t || faultSs cs c l (addVar k nm vars) t
def faultSs (cs : List C) (c : C) : List S → List Str → Nat → Bool
  | [], _, _ => false
  | .mk k nm x b l :: r, vars, t => faultS cs c (.mk k nm x b l) vars t || faultSs cs c r (addVar k nm vars) t
end
def faultM (cs : List C) (c : C) (k : Nat) (m : M) (t : Nat) : Bool :=
  t == 4 && decide ((methodAt c.methods m.name).getD 0 < k) ||
  t == 5 && decide (8 < m.params.length ∨ 30 < m.params.length + lets m.body) ||
  t == 6 && twice m.params ||
  faultSs cs c m.body m.params t
def weak : Str := ⟨#[87, 101, 97, 107]⟩
def faultC (cs : List C) (i : Nat) (c : C) (t : Nat) : Bool :=
  t == 0 && i == 60 ||
  t == 1 && decide (30 < c.fields.length ∨ 30 < c.methods.length) ||
  t == 2 && (decide ((classAt cs c.name).getD 0 < i) || decide (c.name = weak)) ||
  t == 3 && twice c.fields
/-- the lines of the table that hold -/
def found (f : Nat → Bool) : List Nat := (List.range 13).filter f
/-- a fault: the line of the table, the class, the method (none: the class itself) -/
structure F where
  line : Nat
  cls : Nat
  mth : Option Nat
def faultsM (cs : List C) (i : Nat) (c : C) : List M → Nat → List F
  | [], _ => []
  | m :: r, k => (found (faultM cs c k m)).map (fun t => ⟨t, i, some k⟩) ++ faultsM cs i c r (k + 1)
def faultsC (cs : List C) : List C → Nat → List F
  | [], _ => []
  | c :: r, i => (found (faultC cs i c)).map (fun t => ⟨t, i, none⟩) ++ faultsM cs i c c.methods 0 ++ faultsC cs r (i + 1)
def faults (cs : List C) : List F := faultsC cs cs 0
/-- the error of a line of the table -/
def code (t : Nat) : Nat :=
  if t = 0 ∨ t = 1 ∨ t = 5 then 8 else if t = 2 ∨ t = 3 ∨ t = 4 ∨ t = 6 then 5 else if t = 9 ∨ t = 12 then 2 else 4
def check (cs : List C) : List Nat := if validP cs then (faults cs).map fun f => code f.line else [1]
end Ck
end Go.Proofs.YtdafdbjdnebnfaaGreatDoor

namespace Go.Proofs.YtdafdbjdnebnfaaGreatDoor
namespace Ck
open Tr

theorem found_nil {f : Nat → Bool} : found f = [] ↔ ∀ t, t < 13 → f t = false := by
  unfold found
  rw [List.filter_eq_nil_iff]
  simp
theorem faultsM_nil (cs : List C) (i : Nat) (c : C) : ∀ (l : List M) (k : Nat), faultsM cs i c l k = [] ↔ ∀ j m, l[j]? = some m → ∀ t, t < 13 → faultM cs c (k + j) m t = false
  | [], k => by simp [faultsM]
  | x :: r, k => by
    rw [faultsM, List.append_eq_nil_iff, List.map_eq_nil_iff, found_nil, faultsM_nil cs i c r (k + 1)]
    constructor
    · rintro ⟨h1, h2⟩ j m hj
      cases j with
      | zero => cases hj; exact h1
      | succ j => have := h2 j m (by simpa using hj); rwa [show k + 1 + j = k + (j + 1) by omega] at this
    · intro h
      refine ⟨h 0 x rfl, fun j m hj => ?_⟩
      have := h (j + 1) m (by simpa using hj)
      rwa [show k + (j + 1) = k + 1 + j by omega] at this
theorem faultsC_nil (cs : List C) : ∀ (l : List C) (i : Nat), faultsC cs l i = [] ↔
    ∀ j c, l[j]? = some c → (∀ t, t < 13 → faultC cs (i + j) c t = false) ∧ ∀ k m, c.methods[k]? = some m → ∀ t, t < 13 → faultM cs c k m t = false
  | [], i => by simp [faultsC]
  | x :: r, i => by
    rw [faultsC, List.append_eq_nil_iff, List.append_eq_nil_iff, List.map_eq_nil_iff, found_nil, faultsM_nil, faultsC_nil cs r (i + 1)]
    constructor
    · rintro ⟨⟨h1, h2⟩, h3⟩ j c hj
      cases j with
      | zero => cases hj; exact ⟨h1, fun k m hk => by have := h2 k m hk; rwa [Nat.zero_add] at this⟩
      | succ j => have := h3 j c (by simpa using hj); rwa [show i + 1 + j = i + (j + 1) by omega] at this
    · intro h
      refine ⟨⟨(h 0 x rfl).1, fun k m hk => ?_⟩, fun j c hj => ?_⟩
      · rw [Nat.zero_add]; exact (h 0 x rfl).2 k m hk
      · have := h (j + 1) c (by simpa using hj)
        rwa [show i + (j + 1) = i + 1 + j by omega] at this
/-- a program without faults -/
structure NoFault (cs : List C) : Prop where
  cls : ∀ (i : Nat) (c : C), cs[i]? = some c → ∀ t, t < 13 → faultC cs i c t = false
  mth : ∀ (i : Nat) (c : C), cs[i]? = some c → ∀ (k : Nat) (m : M), c.methods[k]? = some m → ∀ t, t < 13 → faultM cs c k m t = false
theorem clean_iff (cs : List C) : faults cs = [] ↔ NoFault cs := by
  unfold faults
  rw [faultsC_nil]
  constructor
  · intro h
    exact ⟨fun i c hi => by have := (h i c hi).1; rwa [Nat.zero_add] at this, fun i c hi => (h i c hi).2⟩
  · intro h i c hi
    rw [Nat.zero_add]
    exact ⟨h.cls i c hi, h.mth i c hi⟩
theorem check_nil (cs : List C) : check cs = [] ↔ validP cs = true ∧ NoFault cs := by
  unfold check
  by_cases h : validP cs = true
  · rw [if_pos h, List.map_eq_nil_iff, clean_iff]; simp [h]
  · rw [if_neg h]; simp [h]

def nf (cs : List C) (i : Nat) : Int := ((cs[i]?.map fun c => c.fields.length).getD 0 : Int)
/-- every class of cs is found in cs' with as many fields -/
def Ext (cs cs' : List C) : Prop := ∀ nm i, classAt cs nm = some i → ∃ i', classAt cs' nm = some i' ∧ nf cs' i' = nf cs i
theorem ownE_ext {cs cs' : List C} (h : Ext cs cs') {fs vars : List Str} {k : Int} {nm : Str} {a : Bool} {args : List E} (hc : ∀ t, t < 13 → ownE cs fs vars k nm a args t = false) :
    ∀ t, t < 13 → ownE cs' fs vars k nm a args t = false := by
  intro t ht
  have h0 := hc t ht
  unfold ownE at h0 ⊢
  split
  · rename_i hk; rw [if_pos hk] at h0; exact h0
  · rename_i hk
    rw [if_neg hk] at h0
    split
    · rename_i hk2; rw [if_pos hk2] at h0; exact h0
    · rename_i hk2
      rw [if_neg hk2] at h0
      split
      · rename_i hk3
        rw [if_pos hk3] at h0
        cases hcl : classAt cs nm with
        | none =>
          have h8 := hc 8 (by omega)
          unfold ownE at h8
          rw [if_neg hk, if_neg hk2, if_pos hk3, hcl] at h8
          simp at h8
        | some i =>
          rw [hcl] at h0
          obtain ⟨i', h1, h2⟩ := h nm i hcl
          rw [h1]
          simp only [] at h0 ⊢
          unfold nf at h2
          rw [h2]
          exact h0
      · rfl
mutual
theorem faultE_ext {cs cs' : List C} (h : Ext cs cs') {fs vars : List Str} : ∀ (e : E), (∀ t, t < 13 → faultE cs fs vars e t = false) → ∀ t, t < 13 → faultE cs' fs vars e t = false
  | .mk k o i nm a l, hc, t, ht => by
    rw [faultE, Bool.or_eq_false_iff]
    have h1 : ∀ t, t < 13 → ownE cs fs vars k nm a l t = false := fun t ht => by have := hc t ht; rw [faultE, Bool.or_eq_false_iff] at this; exact this.1
    have h2 : ∀ t, t < 13 → faultEs cs fs vars l t = false := fun t ht => by have := hc t ht; rw [faultE, Bool.or_eq_false_iff] at this; exact this.2
    exact ⟨ownE_ext h h1 t ht, faultEs_ext h l h2 t ht⟩
theorem faultEs_ext {cs cs' : List C} (h : Ext cs cs') {fs vars : List Str} : ∀ (l : List E), (∀ t, t < 13 → faultEs cs fs vars l t = false) → ∀ t, t < 13 → faultEs cs' fs vars l t = false
  | [], _, t, _ => by rw [faultEs]
  | e :: r, hc, t, ht => by
    rw [faultEs, Bool.or_eq_false_iff]
    have h1 : ∀ t, t < 13 → faultE cs fs vars e t = false := fun t ht => by have := hc t ht; rw [faultEs, Bool.or_eq_false_iff] at this; exact this.1
    have h2 : ∀ t, t < 13 → faultEs cs fs vars r t = false := fun t ht => by have := hc t ht; rw [faultEs, Bool.or_eq_false_iff] at this; exact this.2
    exact ⟨faultE_ext h e h1 t ht, faultEs_ext h r h2 t ht⟩
end
mutual
theorem faultS_ext {cs cs' : List C} (h : Ext cs cs') {c : C} : ∀ (s : S) (vars : List Str), (∀ t, t < 13 → faultS cs c s vars t = false) → ∀ t, t < 13 → faultS cs' c s vars t = false
  | .mk k nm x b l, vars, hc, t, ht => by
    have hp : ∀ t, t < 13 → faultEs cs c.fields vars x t = false ∧ ownS c vars k nm x t = false ∧ faultSs cs c b (addVar k nm vars) t = false ∧ faultSs cs c l (addVar k nm vars) t = false := fun t ht => by
      have := hc t ht
      rw [faultS, Bool.or_eq_false_iff, Bool.or_eq_false_iff, Bool.or_eq_false_iff] at this
      exact ⟨this.1.1.1, this.1.1.2, this.1.2, this.2⟩
    rw [faultS, Bool.or_eq_false_iff, Bool.or_eq_false_iff, Bool.or_eq_false_iff]
    exact ⟨⟨⟨faultEs_ext h x (fun t ht => (hp t ht).1) t ht, (hp t ht).2.1⟩, faultSs_ext h b _ (fun t ht => (hp t ht).2.2.1) t ht⟩, faultSs_ext h l _ (fun t ht => (hp t ht).2.2.2) t ht⟩
theorem faultSs_ext {cs cs' : List C} (h : Ext cs cs') {c : C} : ∀ (l : List S) (vars : List Str), (∀ t, t < 13 → faultSs cs c l vars t = false) → ∀ t, t < 13 → faultSs cs' c l vars t = false
  | [], _, _, t, _ => by rw [faultSs]
  | .mk k nm x b l :: r, vars, hc, t, ht => by
    have hp : ∀ t, t < 13 → faultS cs c (.mk k nm x b l) vars t = false ∧ faultSs cs c r (addVar k nm vars) t = false := fun t ht => by
      have := hc t ht
      rw [faultSs, Bool.or_eq_false_iff] at this
      exact this
    rw [faultSs, Bool.or_eq_false_iff]
    exact ⟨faultS_ext h (.mk k nm x b l) vars (fun t ht => (hp t ht).1) t ht, faultSs_ext h r _ (fun t ht => (hp t ht).2) t ht⟩
end
theorem faultM_ext {cs cs' : List C} (h : Ext cs cs') {c : C} {k : Nat} {m : M} (hc : ∀ t, t < 13 → faultM cs c k m t = false) : ∀ t, t < 13 → faultM cs' c k m t = false := by
  intro t ht
  have hp : ∀ t, t < 13 → faultSs cs c m.body m.params t = false := fun t ht => by
    have := hc t ht
    unfold faultM at this
    rw [Bool.or_eq_false_iff] at this
    exact this.2
  have h0 := hc t ht
  unfold faultM at h0 ⊢
  rw [Bool.or_eq_false_iff] at h0 ⊢
  exact ⟨h0.1, faultSs_ext h _ _ hp t ht⟩
theorem classAt_get {cs : List C} {nm : Str} {i : Nat} (h : classAt cs nm = some i) : ∃ c, cs[i]? = some c ∧ c.name = nm ∧ ∀ j c', j < i → cs[j]? = some c' → c'.name ≠ nm := by
  unfold classAt at h
  rw [List.findIdx?_eq_some_iff_getElem] at h
  obtain ⟨hlt, h1, h2⟩ := h
  refine ⟨cs[i], List.getElem?_eq_getElem hlt, of_decide_eq_true h1, fun j c' hj hc => ?_⟩
  have hjl : j < cs.length := by omega
  have := h2 j hj
  rw [List.getElem?_eq_getElem hjl] at hc
  cases hc
  simpa using this
theorem classAt_none {cs : List C} {nm : Str} (h : classAt cs nm = none) : ∀ (j : Nat) (c : C), cs[j]? = some c → c.name ≠ nm := by
  unfold classAt at h
  rw [List.findIdx?_eq_none_iff] at h
  intro j c hj
  have := h c (List.mem_of_getElem? hj)
  simpa using this
theorem classAt_some {cs : List C} {j : Nat} {c : C} (hj : cs[j]? = some c) : ∃ i, classAt cs c.name = some i ∧ i ≤ j := by
  cases h : classAt cs c.name with
  | none => exact absurd rfl (classAt_none h j c hj)
  | some i =>
    refine ⟨i, rfl, ?_⟩
    obtain ⟨c2, _, _, h2⟩ := classAt_get h
    rcases Nat.lt_or_ge j i with hlt | hge
    · exact absurd rfl (h2 j c hlt hj)
    · exact hge
theorem classAt_of {cs : List C} {i : Nat} {c : C} {nm : Str} (hi : cs[i]? = some c) (hn : c.name = nm) (h : ∀ j c', j < i → cs[j]? = some c' → c'.name ≠ nm) : classAt cs nm = some i := by
  subst hn
  obtain ⟨i2, h1, h2⟩ := classAt_some hi
  obtain ⟨c2, g1, g2, g3⟩ := classAt_get h1
  rcases Nat.lt_or_ge i2 i with hlt | hge
  · exact absurd g2 (h i2 c2 hlt g1)
  · rw [h1, show i2 = i by omega]
/-- a further class without members -/
theorem grows {cs : List C} (h : NoFault cs) (nm : Str) (act : Bool) (hw : nm ≠ weak) (hl : cs.length < 60) (hno : classAt cs nm = none) : NoFault (cs ++ [⟨nm, act, [], []⟩]) := by
  have hap : ∀ s i, classAt cs s = some i → classAt (cs ++ [⟨nm, act, [], []⟩]) s = some i := by
    intro s i hs
    unfold classAt at hs ⊢
    rw [List.findIdx?_append, hs]
    rfl
  have hext : Ext cs (cs ++ [⟨nm, act, [], []⟩]) := by
    intro s i hs
    refine ⟨i, hap s i hs, ?_⟩
    obtain ⟨c, hc, _⟩ := classAt_get hs
    have : i < cs.length := (List.getElem?_eq_some_iff.1 hc).1
    unfold nf
    rw [List.getElem?_append_left this]
  have hget : ∀ i c, (cs ++ [⟨nm, act, [], []⟩])[i]? = some c → cs[i]? = some c ∨ (i = cs.length ∧ c = ⟨nm, act, [], []⟩) := by
    intro i c hi
    rcases Nat.lt_or_ge i cs.length with hlt | hge
    · rw [List.getElem?_append_left hlt] at hi; exact .inl hi
    · rw [List.getElem?_append_right hge] at hi
      have h0 : i - cs.length < 1 := (List.getElem?_eq_some_iff.1 hi).1
      have h1 : i = cs.length := by omega
      subst h1
      rw [Nat.sub_self] at hi
      cases hi
      exact .inr ⟨rfl, rfl⟩
  refine ⟨fun i c hi t ht => ?_, fun i c hi k m hk => ?_⟩
  · rcases hget i c hi with hi | ⟨rfl, rfl⟩
    · have h0 := h.cls i c hi t ht
      obtain ⟨i2, h1, _⟩ := classAt_some hi
      unfold faultC at h0 ⊢
      rw [hap _ _ h1]
      rw [h1] at h0
      exact h0
    · have h1 : classAt (cs ++ [⟨nm, act, [], []⟩]) nm = some cs.length := by
        refine classAt_of (c := ⟨nm, act, [], []⟩) (by rw [List.getElem?_append_right (Nat.le_refl _), Nat.sub_self]; rfl) rfl fun j c' hj hc => ?_
        rw [List.getElem?_append_left hj] at hc
        exact classAt_none hno j c' hc
      unfold faultC
      simp only [h1, twice]
      have h60 : (cs.length == 60) = false := beq_eq_false_iff_ne.2 (by omega)
      rw [h60]
      simp [hw]
  · rcases hget i c hi with hi | ⟨rfl, rfl⟩
    · exact faultM_ext hext (h.mth i c hi k m hk)
    · simp at hk
/-- the names of a program without faults are different -/
theorem NoFault.names {cs : List C} (h : NoFault cs) {i j : Nat} {c d : C} (hi : cs[i]? = some c) (hj : cs[j]? = some d) (hn : c.name = d.name) : i = j := by
  have key : ∀ i c, cs[i]? = some c → classAt cs c.name = some i := by
    intro i c hi
    have h2 := h.cls i c hi 2 (by omega)
    unfold faultC at h2
    obtain ⟨i2, h1, hle⟩ := classAt_some hi
    rw [h1] at h2 ⊢
    simp at h2
    have := h2.1
    rw [show i2 = i by omega]
  have h1 := key i c hi
  have h2 := key j d hj
  rw [hn, h2] at h1
  cases h1
  rfl
theorem NoFault.short {cs : List C} (h : NoFault cs) : cs.length ≤ 60 := by
  rcases Nat.lt_or_ge 60 cs.length with hlt | hge
  · have h0 := h.cls 60 cs[60] (List.getElem?_eq_getElem hlt) 0 (by omega)
    unfold faultC at h0
    simp at h0
  · exact hge
theorem reverses {cs : List C} (h : NoFault cs) : NoFault cs.reverse := by
  have hr : ∀ (i : Nat) (c : C), cs.reverse[i]? = some c → i < cs.length ∧ cs[cs.length - 1 - i]? = some c := by
    intro i c hi
    have hlt : i < cs.length := by have := (List.getElem?_eq_some_iff.1 hi).1; simpa using this
    rw [List.getElem?_reverse hlt] at hi
    exact ⟨hlt, hi⟩
  have hr2 : ∀ (i : Nat) (c : C), cs[i]? = some c → cs.reverse[cs.length - 1 - i]? = some c := by
    intro i c hi
    have hlt : i < cs.length := (List.getElem?_eq_some_iff.1 hi).1
    rw [List.getElem?_reverse (by omega), show cs.length - 1 - (cs.length - 1 - i) = i by omega]
    exact hi
  have huniq : ∀ (i j : Nat) (c d : C), cs.reverse[i]? = some c → cs.reverse[j]? = some d → c.name = d.name → i = j := by
    intro i j c d hi hj hn
    obtain ⟨a1, a2⟩ := hr i c hi
    obtain ⟨b1, b2⟩ := hr j d hj
    have := h.names a2 b2 hn
    omega
  have hext : Ext cs cs.reverse := by
    intro s i hs
    obtain ⟨c, hc, hn, _⟩ := classAt_get hs
    have h1 := hr2 i c hc
    refine ⟨cs.length - 1 - i, classAt_of h1 hn fun j c' hj hc' hn' => ?_, ?_⟩
    · have := huniq _ _ _ _ hc' h1 (by rw [hn, hn'])
      omega
    · unfold nf
      rw [h1, hc]
  refine ⟨fun i c hi t ht => ?_, fun i c hi k m hk => ?_⟩
  · obtain ⟨a1, a2⟩ := hr i c hi
    have h0 := h.cls _ c a2 t ht
    have h1 : classAt cs.reverse c.name = some i := classAt_of hi rfl fun j c' hj hc' hn' => by
      have := huniq _ _ _ _ hc' hi hn'
      omega
    have hsh := h.short
    have h60 : (i == 60) = false := beq_eq_false_iff_ne.2 (by omega)
    unfold faultC at h0 ⊢
    rw [h1, h60]
    simp only [Option.getD_some, Nat.lt_irrefl, decide_false, Bool.false_or, Bool.and_false]
    rw [Bool.or_eq_false_iff, Bool.or_eq_false_iff, Bool.or_eq_false_iff] at h0
    obtain ⟨⟨⟨g0, g1⟩, g2⟩, g3⟩ := h0
    rw [Bool.and_eq_false_iff, Bool.or_eq_false_iff] at g2
    rw [Bool.or_eq_false_iff, Bool.or_eq_false_iff, g1, g3]
    refine ⟨⟨rfl, ?_⟩, rfl⟩
    rcases g2 with g2 | g2
    · rw [g2]; rfl
    · rw [g2.2, Bool.and_false]
  · obtain ⟨a1, a2⟩ := hr i c hi
    exact faultM_ext hext (h.mth _ c a2 k m hk)
theorem valid_app {cs : List C} {c : C} (h : validP cs = true) (h2 : validC c = true) : validP (cs ++ [c]) = true := by
  unfold validP at h ⊢
  rw [List.all_append, h]
  simp [h2]
theorem valid_rev {cs : List C} (h : validP cs = true) : validP cs.reverse = true := by
  unfold validP at h ⊢
  rw [List.all_reverse]
  exact h
theorem code_ne (t : Nat) : code t ≠ 1 ∧ code t ≠ 0 := by
  unfold code
  split
  · omega
  · split
    · omega
    · split <;> omega
end Ck
end Go.Proofs.YtdafdbjdnebnfaaGreatDoor

namespace Go.Proofs.YtdafdbjdnebnfaaGreatDoor
open Go.RowKit Go.Maps

def kl (s : ByteArray) : Lit := .string s.data.toList
theorem keyStr : Keyed Tryz.prog 9 := string_keyed Tryz.underlying9
theorem keyOfStr (s : ByteArray) (hs : s.size ≤ maxLen) : keyOf Tryz.prog 9 (.string s) = some (kl s) := WideMaps.keyOf_string_mk Tryz.underlying9 hs
theorem kl_key (s : ByteArray) : WideAt.IsKeyLit (kl s) := by unfold kl WideAt.IsKeyLit; trivial
theorem kl_inj {a b : ByteArray} (h : kl a = kl b) : a = b := by
  unfold kl at h
  injection h with h
  cases a with
  | mk a =>
    cases b with
    | mk b =>
      simp only at h
      have := Array.toList_inj.1 h
      rw [this]
theorem same_kl (a b : ByteArray) : (kl a).sameKey (kl b) = decide (a = b) := by
  rw [Bool.eq_iff_iff, WideAt.sameKey_iff (kl_key b), decide_eq_true_eq]
  exact ⟨kl_inj, fun h => by rw [h]⟩
def tru : DataW Unit := .lit (.bool true)
theorem keys_kl (l : List ByteArray) : ∀ x ∈ l.map kl, WideAt.IsKeyLit x := by
  intro x hx
  obtain ⟨s, _, rfl⟩ := List.mem_map.1 hx
  exact kl_key s
/-- block b of w is a set of strings of at most n entries: those of l -/
def SetB (w : World) (b n : Nat) (l : List ByteArray) : Prop :=
  w.ownsMap Tryz.prog 9 (plainElem Tryz.prog 4) b n (setOf tru (l.map kl))
theorem SetB.made (w : World) : SetB (w.alloc (.map #[] 0)) w.heap.size 0 [] := World.ownsMap_made w _ _ _
theorem SetB.grown {w w' : World} {b n : Nat} {l : List ByteArray} {row : Option Nat} (h : SetB w b n l) (hg : w.grownBy w' row) (hne : some b ≠ row) : SetB w' b n l := World.ownsMap.kept h hg hne
theorem SetB.keep {w w' : World} {b n : Nat} {l : List ByteArray} (h : SetB w b n l) (hb : Below w.heap.size w w') : SetB w' b n l := h.grown (row := none) (below_grown hb) (by simp)
theorem SetB.lt {w : World} {b n : Nat} {l : List ByteArray} (h : SetB w b n l) : b < w.heap.size := World.ownsMap.lt h
theorem SetB.alloc {w : World} {b n : Nat} {l : List ByteArray} (h : SetB w b n l) (o : Obj) : SetB (w.alloc o) b n l := World.ownsMap.alloc h o
theorem SetB.drew {w : World} {b n : Nat} {l : List ByteArray} (h : SetB w b n l) : SetB w.drew b n l := h
theorem SetB.mono {w : World} {b n n' : Nat} {l : List ByteArray} (h : SetB w b n l) (hn : n ≤ n') : SetB w b n' l := World.ownsMap.mono h hn

theorem atKey_fold (u z : DataW Unit) (k : Lit) : ∀ (acc : List Lit) (m : DataW Unit), IsMap m → (∀ x ∈ acc, WideAt.IsKeyLit x) →
    (acc.foldl (fun m x => m.put x u) m).atKey k z = if acc.any (fun x => x.sameKey k) then u else m.atKey k z
  | [], m, _, _ => by simp
  | x :: r, m, hm, h => by
    rw [List.foldl_cons, atKey_fold u z k r (m.put x u) (hm.put x u) (fun y hy => h y (by simp [hy])), List.any_cons]
    by_cases e : k = x
    · subst e
      rw [atKey_put_same hm (h k (by simp)), WideAt.sameKey_self (h k (by simp))]
      simp
    · rw [atKey_put_other e, sameKey_ne (fun e' => e e'.symm), Bool.false_or]
theorem any_kl (l : List ByteArray) (s : ByteArray) : (l.map kl).any (fun x => x.sameKey (kl s)) = Ck.hasS l s := by
  unfold Ck.hasS
  rw [List.any_map]
  congr 1
  funext x
  exact same_kl x s
theorem atKey_set (l : List ByteArray) (s : ByteArray) : (setOf tru (l.map kl)).atKey (kl s) (.lit (.bool false)) = .lit (.bool (Ck.hasS l s)) := by
  unfold setOf
  rw [atKey_fold tru _ (kl s) (l.map kl) _ isMap_empty (keys_kl l), any_kl]
  cases Ck.hasS l s
  · rfl
  · rfl
theorem plainElem_bool_inv {P : Program} {e : TypeId} (he : P.underlying e = some .bool) {v : Value} {x : Bool} {ps : List MemPlace} (h : plainElem P e v = some ((.lit (.bool x) : DataW Unit), ps)) : v = .bool x := by
  unfold plainElem at h
  rw [he] at h
  cases v with
  | bool y => simp at h; rw [h.1]
  | _ => simp at h
theorem boolElem_inv {v : Value} {x : Bool} {ps : List MemPlace} (h : plainElem Tryz.prog 4 v = some ((.lit (.bool x) : DataW Unit), ps)) : v = .bool x := plainElem_bool_inv Tryz.underlying4 h
theorem boolZero (w : World) : (zeroValue 4).run Tryz.prog w = .ok (.bool false) w := by kernel_rfl
theorem SetB.look {w : World} {b n : Nat} {l : List ByteArray} (h : SetB w b n l) (s : ByteArray) (hs : s.size ≤ maxLen) :
    (Instr.lookup 94 (.map (some b)) (.string s) false).run Tryz.prog w = .ok (.bool (Ck.hasS l s)) w := by
  obtain ⟨v, ps, hrun, hv⟩ := World.ownsMap.lookup h keyStr Tryz.underlying94 (boolZero w) (plainElem_bool Tryz.underlying4 false) (keyOfStr s hs)
  rw [atKey_set] at hv
  rw [hrun, boolElem_inv hv]
theorem wpList_set_put (w : World) {ops : Array Oper} {rest : List Oper} {o : Oper} {a : Act} {Q : Exit → Act → World → Prop}
    (hg : o.guard = none) (m x v : Operand) (hop : o.op = Op.mapUpdate 94 m x v) (b n : Nat) (l : List ByteArray) (hm : a.eval m = .map (some b)) (h : SetB w b n l) (hn : n < maxLen) (s : ByteArray) (hs : s.size ≤ maxLen) (hx : a.eval x = .string s) (hv : a.eval v = .bool true)
    (hK : ∀ w', SetB w' b (n + 1) (l ++ [s]) → w.grownBy w' (some b) → wpList Tryz.prog ops Q rest (a.put o.dst undef) w') : wpList Tryz.prog ops Q (o :: rest) a w :=
  wpList_mapUpdate_own w hg m x v 94 hop 9 4 keyStr Tryz.underlying94 (plainElem Tryz.prog 4) b n (setOf tru (l.map kl)) hm h hn (.string s) (.bool true) (kl s) hx hv (keyOfStr s hs) tru [] (plainElem_bool Tryz.underlying4 true)
    (fun w' h1 h2 => hK w' (by unfold SetB; rw [List.map_append, List.map_cons, List.map_nil, setOf_snoc]; exact h1) h2)

/-- how many different strings -/
def dist (l : List ByteArray) : Nat := (l.foldl (fun acc x => if Ck.hasS acc x then acc else acc ++ [x]) []).length
theorem fold_add : ∀ (l acc : List ByteArray), (l.map kl).foldl addKey (acc.map kl) = ((l.foldl (fun acc x => if Ck.hasS acc x then acc else acc ++ [x]) acc).map kl)
  | [], acc => rfl
  | x :: r, acc => by
    rw [List.map_cons, List.foldl_cons, List.foldl_cons]
    have e : addKey (acc.map kl) (kl x) = (if Ck.hasS acc x then acc else acc ++ [x]).map kl := by
      unfold addKey
      rw [any_kl]
      split <;> simp
    rw [e, fold_add r]
theorem size_set (l : List ByteArray) : Maps.size (setOf tru (l.map kl)) = dist l := by
  rw [size_setOf tru _ (keys_kl l)]
  have := fold_add l []
  rw [List.map_nil] at this
  rw [this, List.length_map]
  rfl
theorem SetB.size {w : World} {b n : Nat} {l : List ByteArray} (h : SetB w b n l) : (Builtin.len_ #[94] 3 #[.map (some b)]).run Tryz.prog w = .ok (.int .i64 (dist l)) w := by
  rw [← size_set]
  exact World.ownsMap.len h Tryz.underlying94 _
theorem hasS_mem (l : List ByteArray) (s : ByteArray) : Ck.hasS l s = true ↔ s ∈ l := by
  unfold Ck.hasS
  simp
theorem fold_len : ∀ (l acc : List ByteArray), acc.length ≤ (l.foldl (fun acc x => if Ck.hasS acc x then acc else acc ++ [x]) acc).length ∧
    (l.foldl (fun acc x => if Ck.hasS acc x then acc else acc ++ [x]) acc).length ≤ acc.length + l.length
  | [], acc => by simp
  | x :: r, acc => by
    rw [List.foldl_cons]
    have h := fold_len r (if Ck.hasS acc x then acc else acc ++ [x])
    split at h <;> split <;> simp_all <;> omega
theorem fold_twice : ∀ (l acc : List ByteArray), ((l.foldl (fun acc x => if Ck.hasS acc x then acc else acc ++ [x]) acc).length < acc.length + l.length) ↔ (Ck.twice l = true ∨ ∃ x ∈ l, x ∈ acc)
  | [], acc => by simp [Ck.twice]
  | x :: r, acc => by
    rw [List.foldl_cons, Ck.twice, Bool.or_eq_true, hasS_mem r x]
    by_cases h : Ck.hasS acc x = true
    · have hst : (if Ck.hasS acc x = true then acc else acc ++ [x]) = acc := if_pos h
      rw [hst]
      have h1 := (hasS_mem acc x).1 h
      have h2 := (fold_len r acc).2
      constructor
      · intro _; exact .inr ⟨x, by simp, h1⟩
      · intro _; simp; omega
    · have hst : (if Ck.hasS acc x = true then acc else acc ++ [x]) = acc ++ [x] := if_neg h
      rw [hst]
      have h1 : x ∉ acc := fun hh => h ((hasS_mem acc x).2 hh)
      have h2 := fold_twice r (acc ++ [x])
      have e : acc.length + (x :: r).length = (acc ++ [x]).length + r.length := by simp; omega
      rw [e, h2]
      constructor
      · rintro (h3 | ⟨y, hy, hy2⟩)
        · exact .inl (.inr h3)
        · rw [List.mem_append, List.mem_singleton] at hy2
          rcases hy2 with hy2 | rfl
          · exact .inr ⟨y, by simp [hy], hy2⟩
          · exact .inl (.inl hy)
      · rintro ((h3 | h3) | ⟨y, hy, hy2⟩)
        · exact .inr ⟨x, h3, by simp⟩
        · exact .inl h3
        · rcases List.mem_cons.1 hy with rfl | hy
          · exact absurd hy2 h1
          · exact .inr ⟨y, hy, by simp [hy2]⟩
theorem dist_twice (l : List ByteArray) : decide ((dist l : Int) < l.length) = Ck.twice l := by
  have h := fold_twice l []
  rw [List.length_nil, Nat.zero_add] at h
  rw [Bool.eq_iff_iff, decide_eq_true_eq]
  unfold dist
  rw [Int.ofNat_lt, h]
  simp
theorem dist_le (l : List ByteArray) : dist l ≤ l.length := by
  have := (fold_len l []).2
  simpa [dist] using this
end Go.Proofs.YtdafdbjdnebnfaaGreatDoor

namespace Go.Proofs.YtdafdbjdnebnfaaGreatDoor
open Go.RowKit

def placeCells (cv : Value) (c : Tr.C) (fv mv : Value) (f : Nat → Bool) : Array Value := #[cv, .string c.name, .bool c.actor, fv, mv, .bool (f 0), .bool (f 1), .bool (f 2), .bool (f 3), .bool (f 4), .bool (f 5), .bool (f 6), .bool (f 7), .bool (f 8), .bool (f 9), .bool (f 10), .bool (f 11), .bool (f 12)]
/-- block P of w is a place: the program cv, the class c with its fields fv and methods mv, the faults f -/
def PlaceAt (w : World) (P : Nat) (cv : Value) (c : Tr.C) (fv mv : Value) (f : Nat → Bool) : Prop := w.heap[P]? = some (.cells (placeCells cv c fv mv f) 90 (0, 0))
section
variable {w w' : World} {P : Nat} {cv fv mv : Value} {c : Tr.C} {f : Nat → Bool}
theorem PlaceAt.lt (h : PlaceAt w P cv c fv mv f) : P < w.heap.size := lt_of_block h
theorem PlaceAt.cell (h : PlaceAt w P cv c fv mv f) {j : Nat} {u : Value} (hj : (placeCells cv c fv mv f)[j]? = some u) : w.cell? ⟨P, j, none⟩ = some u := by
  unfold PlaceAt at h
  simp only [World.cell?, h]
  simpa using hj
theorem PlaceAt.free (h : PlaceAt w P cv c fv mv f) (j : Nat) : w.frozen? ⟨P, j, none⟩ = false := by
  unfold PlaceAt at h
  simp [World.frozen?, h]
theorem PlaceAt.grown {row : Option Nat} (h : PlaceAt w P cv c fv mv f) (hg : w.grownBy w' row) (hne : some P ≠ row) : PlaceAt w' P cv c fv mv f := by
  unfold PlaceAt
  rw [hg.block P h.lt hne]
  exact h
theorem PlaceAt.keep (h : PlaceAt w P cv c fv mv f) (hb : Below w.heap.size w w') : PlaceAt w' P cv c fv mv f := h.grown (row := none) (below_grown hb) (by simp)
theorem PlaceAt.made (w : World) (cv : Value) (c : Tr.C) (fv mv : Value) (f : Nat → Bool) : PlaceAt (w.alloc (.cells (placeCells cv c fv mv f) 90)) w.heap.size cv c fv mv f := (MapKept.heap_alloc w _).1
theorem PlaceAt.found (h : PlaceAt w P cv c fv mv f) {k : Nat} (hk : k < 13) : w.cell? ⟨P, 5 + k, none⟩ = some (.bool (f k)) := by
  refine h.cell ?_
  match k, hk with
  | 0, _ => rfl | 1, _ => rfl | 2, _ => rfl | 3, _ => rfl | 4, _ => rfl | 5, _ => rfl | 6, _ => rfl | 7, _ => rfl | 8, _ => rfl | 9, _ => rfl | 10, _ => rfl | 11, _ => rfl | 12, _ => rfl
theorem heap_set {w : World} {P j : Nat} {cs : Array Value} {t : TypeId} {r : Nat × Nat} (u : Value) (h : w.heap[P]? = some (.cells cs t r)) : (w.setCell ⟨P, j, none⟩ u).heap[P]? = some (.cells (cs.setIfInBounds j u) t r) := by
  have hlt := lt_of_block h
  have h' : w.heap[P] = .cells cs t r := by simpa [Array.getElem?_eq_getElem hlt] using h
  show (w.heap.modify P _)[P]? = _
  rw [Array.getElem?_eq_getElem (by simpa using hlt), Array.getElem_modify_self, h']
  rfl
theorem place_upd (cv : Value) (c : Tr.C) (fv mv : Value) (f : Nat → Bool) {k : Nat} (hk : k < 13) : (placeCells cv c fv mv f).setIfInBounds (5 + k) (.bool true) = placeCells cv c fv mv (fun t => f t || (t == k)) := by
  unfold placeCells
  match k, hk with
  | 0, _ => simp | 1, _ => simp | 2, _ => simp | 3, _ => simp | 4, _ => simp | 5, _ => simp | 6, _ => simp | 7, _ => simp | 8, _ => simp | 9, _ => simp | 10, _ => simp | 11, _ => simp | 12, _ => simp
theorem PlaceAt.set (h : PlaceAt w P cv c fv mv f) {k : Nat} (hk : k < 13) : PlaceAt (w.setCell ⟨P, 5 + k, none⟩ (.bool true)) P cv c fv mv (fun t => f t || (t == k)) := by
  unfold PlaceAt
  rw [heap_set _ h, place_upd _ _ _ _ _ hk]
theorem grown_setCell (w : World) (P j : Nat) (u : Value) : w.grownBy (w.setCell ⟨P, j, none⟩ u) (some P) :=
  ⟨rfl, rfl, rfl, by simp [World.setCell], fun k _ hk => Below.heap_setCell w _ u k (fun e => hk (by rw [e]))⟩
end

set_option maxRecDepth 100000 in
set_option maxHeartbeats 1000000 in
theorem add_any (P k : Nat) (b : Bool) (w : World) (cv : Value) (c : Tr.C) (fv mv : Value) (f : Nat → Bool) (hk : k < 13) (hP : PlaceAt w P cv c fv mv f) :
    Calls Tryz.prog 56 #[.pointer (some ⟨P, 0, none⟩), .int .i64 k, .bool b] w fun e w' => e = .returned (.tuple #[]) ∧ PlaceAt w' P cv c fv mv (fun t => f t || (t == k && b)) ∧ w.grownBy w' (some P) := by
  have HP := Lib.hid hP
  cases b
  · clear hP
    go_enter Tryz.func56, Tryz.ntmps56
    go_wp2
    go_end0
    exact ⟨rfl, by simp only [Bool.and_false, Bool.or_false]; exact HP.out, grown_refl _ _⟩
  · have hc := hP.found hk
    have hf := hP.free (5 + k)
    have HS := Lib.hid (hP.set hk)
    clear hP
    go_enter Tryz.func56, Tryz.ntmps56
    go_wp2
    go_end0
    exact ⟨rfl, by simp only [Bool.and_true]; exact HS.out, grown_setCell _ _ _ _⟩
end Go.Proofs.YtdafdbjdnebnfaaGreatDoor

namespace Go.Proofs.YtdafdbjdnebnfaaGreatDoor
open Go.RowKit Go.Maps

theorem take_get {α : Type} {l : List α} {j : Nat} {x : α} (h : l[j]? = some x) : l.take (j + 1) = l.take j ++ [x] := by
  rw [List.take_add_one, h]; rfl

set_option maxRecDepth 100000 in
set_option maxHeartbeats 1000000 in
theorem repeated_any (v : Value) (l : List ByteArray) (w : World) (h : SlStr w v l) :
    Calls Tryz.prog 57 #[v] w fun e w' => e = .returned (.bool (Ck.twice l)) ∧ Below w.heap.size w w' := by
  obtain ⟨p, c, rfl⟩ := h.form
  have hll := h.len
  unfold maxLen at hll
  obtain ⟨N, hN⟩ : ∃ N, l.length = N := ⟨_, rfl⟩
  rw [hN] at h hll ⊢
  have hmm := @run_makeMap Tryz.prog
  have HS := Lib.hid h
  have HN := Lib.hid hN
  clear h hN
  go_enter Tryz.func57, Tryz.ntmps57
  go_wp2
  go_loopw [9] (fun s9 wr => ∃ k : Nat, s9 = .int .i64 k ∧ k ≤ N ∧ SetB wr w.heap.size k (l.take k) ∧ Below w.heap.size w wr) (fun s9 _ => N - (intOf s9).toNat)
  case atStart => exact ⟨0, rfl, Nat.zero_le _, SetB.made w, below_box _ _⟩
  case round =>
    obtain ⟨k, rfl, hk, hset, hbr⟩ := hrel
    have HST := Lib.hid hset
    have HBR := Lib.hid hbr
    by_cases hlt : k < N
    · obtain ⟨x, hx⟩ : ∃ x, l[k]? = some x := ⟨_, List.getElem?_eq_getElem (by rw [HN.out]; exact hlt)⟩
      obtain ⟨p2, c2, e2, _, _, hcell⟩ := HS.out.keep hbr
      cases e2
      obtain ⟨hsz, b, oo, rfl, _, hc⟩ := hcell k x hx
      have HX := Lib.hid hx
      clear hset hbr hcell hx
      go_wp2_with (at_mapUpdate; refine wpList_set_put _ rfl _ _ _ rfl w.heap.size k (l.take k) rfl HST.out (by unfold maxLen; omega) x hsz rfl rfl ?_; intro w1 hs1 hg1)
      go_roundw
      case rel => exact ⟨k + 1, by go_num, by omega, by rw [take_get HX.out]; exact hs1, HBR.out.grown hg1 HBR.out.size (fun q hq => by cases hq; exact Nat.le_refl _)⟩
      case measure => simp [intOf]; omega
    · have hlen := hset.size
      have hfull : l.take k = l := List.take_of_length_le (by rw [HN.out]; omega)
      rw [hfull] at hlen
      have hdt : decide (dist l < l.length) = Ck.twice l := (decide_eq_decide.2 (by omega)).symm.trans (dist_twice l)
      rw [HN.out] at hdt
      have HD := Lib.hid hdt
      clear hset hbr hfull hdt
      go_wp2
      go_ret
      exact ⟨ret_bool HD.out, HBR.out⟩

/-! ### lets -/
theorem lets_snoc (l : List Tr.S) (x : Tr.S) : Ck.lets (l ++ [x]) = Ck.lets l + Ck.letsS x := by
  induction l with
  | nil => simp [Ck.lets]
  | cons y r ih => rw [List.cons_append, Ck.lets, Ck.lets, ih]; omega
theorem lets_take_le (l : List Tr.S) (k : Nat) : Ck.lets (l.take k) ≤ Ck.lets l := by
  induction l generalizing k with
  | nil => simp
  | cons y r ih =>
    cases k with
    | zero => simp [Ck.lets]
    | succ k => rw [List.take_succ_cons, Ck.lets, Ck.lets]; have := ih k; omega
theorem lets_keep {B : Nat} {u v : Value} {wb w0 w' : World} (h : w0.cell? ⟨B, 3, none⟩ = some u ∧ w0.cell? ⟨B, 4, none⟩ = some v ∧ Hid (Below wb.heap.size wb w0)) (hb : Below w0.heap.size w0 w') :
    w'.cell? ⟨B, 3, none⟩ = some u ∧ w'.cell? ⟨B, 4, none⟩ = some v ∧ Hid (Below wb.heap.size wb w') := ⟨cell_keep' hb h.1, cell_keep' hb h.2.1, below_next h.2.2.out hb⟩
theorem lets_below {a b : Prop} {wb w : World} (h : a ∧ b ∧ Hid (Below wb.heap.size wb w)) : Below wb.heap.size wb w := h.2.2.out
theorem lets_next {l : List Tr.S} {j : Nat} {x : Tr.S} (h : l[j]? = some x) : Ck.lets (l.take (j + 1)) = Ck.lets (l.take j) + ((if x.kind = 0 then 1 else 0) + Ck.lets x.body + Ck.lets x.els) := by
  rw [take_get h, lets_snoc]
  cases x; rfl

set_option maxRecDepth 100000 in
set_option maxHeartbeats 2000000 in
theorem lets_any : ∀ (d : Nat) (l : List Tr.S) (v : Value) (w : World), Tr.S.deep.deeps l ≤ d → SlS w v l → Ck.lets l ≤ 1000000 →
    Calls Tryz.prog 59 #[v] w fun e w' => e = .returned (.int .i64 (Ck.lets l)) ∧ Below w.heap.size w w' := by
  intro d
  induction d using Nat.strongRecOn with
  | ind d ih =>
    intro l v w hd h hbd
    obtain ⟨p, c, rfl, _⟩ := h.form
    have hll := h.len
    unfold maxLen at hll
    obtain ⟨N, hN⟩ : ∃ N, l.length = N := ⟨_, rfl⟩
    rw [hN] at h hll ⊢
    have HS := Lib.hid h
    have HN := Lib.hid hN
    have HIH := Lib.hid ih
    have HD := Lib.hid hd
    have HBD := Lib.hid hbd
    clear h hN ih hd hbd
    go_enter Tryz.func59, Tryz.ntmps59
    go_wp2
    go_loopw [3, 8] (fun s3 s8 wr => ∃ k m : Nat, s8 = .int .i64 k ∧ k ≤ N ∧ s3 = .int .i64 m ∧ m = Ck.lets (l.take k) ∧ Below w.heap.size w wr) (fun _ s8 _ => N - (intOf s8).toNat)
    case atStart => exact ⟨0, 0, rfl, Nat.zero_le _, rfl, by simp [Ck.lets], Below.refl _ _⟩
    case round =>
      obtain ⟨k, m, rfl, hk, rfl, hm, hbr⟩ := hrel
      have HM := Lib.hid hm
      have HBR := Lib.hid hbr
      by_cases hlt : k < N
      · obtain ⟨x, hx⟩ : ∃ x, l[k]? = some x := ⟨_, List.getElem?_eq_getElem (by rw [HN.out]; exact hlt)⟩
        obtain ⟨b, oo, vx, vy, vz, rfl, hblt, hc, hbd, hsx, hsy, hsz⟩ := (HS.out.keep hbr).get hx
        obtain ⟨x0, x1, x2, x3, x4⟩ := hc
        obtain ⟨px, cx, rfl, _⟩ := hsx.form
        obtain ⟨py, cy, rfl, _⟩ := hsy.form
        obtain ⟨pz, cz, rfl, _⟩ := hsz.form
        have hnext := lets_next hx
        have htk := lets_take_le l (k + 1)
        have hle := HBD.out
        obtain ⟨dp1, dp2, dp3⟩ := Tr.S.deep_in HD.out hx
        have hbx := below_box wr (.cells #[.int .i64 x.kind, .string x.name, .slice px x.exprs.length cx, .slice py x.body.length cy, .slice pz x.els.length cz] 75)
        have c0 := box_cell wr #[.int .i64 x.kind, .string x.name, .slice px x.exprs.length cx, .slice py x.body.length cy, .slice pz x.els.length cz] 75 0 _ rfl
        have c3 := box_cell wr #[.int .i64 x.kind, .string x.name, .slice px x.exprs.length cx, .slice py x.body.length cy, .slice pz x.els.length cz] 75 3 _ rfl
        have c4 := box_cell wr #[.int .i64 x.kind, .string x.name, .slice px x.exprs.length cx, .slice py x.body.length cy, .slice pz x.els.length cz] 75 4 _ rfl
        obtain ⟨y, hy⟩ : ∃ y, Ck.lets x.body = y := ⟨_, rfl⟩
        obtain ⟨z, hz⟩ : ∃ y, Ck.lets x.els = y := ⟨_, rfl⟩
        rw [hy, hz] at hnext
        obtain ⟨w1, hw1⟩ : ∃ w1, w1 = wr.alloc (.cells #[.int .i64 x.kind, .string x.name, .slice px x.exprs.length cx, .slice py x.body.length cy, .slice pz x.els.length cz] 75) := ⟨_, rfl⟩
        rw [← hw1] at hbx c0 c3 c4
        have K1 : Hid (∀ W, Below w1.heap.size w1 W → Calls Tryz.prog 59 #[.slice py x.body.length cy] W fun e w' => e = .returned (.int .i64 y) ∧ Below W.heap.size W w') := fun W hb => hy ▸ HIH.out (d - 1) (by omega) x.body _ W dp2 ((hsy.keep hbx).keep hb) (by omega)
        have K2 : Hid (∀ W, Below w1.heap.size w1 W → Calls Tryz.prog 59 #[.slice pz x.els.length cz] W fun e w' => e = .returned (.int .i64 z) ∧ Below W.heap.size W w') := fun W hb => hz ▸ HIH.out (d - 1) (by omega) x.els _ W dp3 ((hsz.keep hbx).keep hb) (by omega)
        have HBX := Lib.hid (below_next hbr hbx)
        have HW1 := Lib.hid hw1
        have hbd1 : m + y + z + 1 ≤ 1000001 := by rw [hnext, ← hm] at htk; omega
        have hbd2 : m + (y + z) ≤ 1000000 := by rw [hnext, ← hm] at htk; omega
        by_cases hk0 : x.kind = 0
        · have hk1 : (x.kind == 0) = true := beq_iff_eq.2 hk0
          have HNX := Lib.hid (show Ck.lets (l.take (k + 1)) = Ck.lets (l.take k) + (1 + y + z) by rw [hnext, if_pos hk0])
          clear hx hbr hsx hsy hsz hbd hnext htk hle dp1 dp2 dp3 hbx hw1 hk0 hy hz hm
          have hs1 : IntKind.i64.wrap ((y : Int) + (z : Int)) = (y : Int) + (z : Int) := IntWalk.i64_in _ (by omega)
          have hs2 : IntKind.i64.wrap ((m : Int) + 1 + ((y : Int) + (z : Int))) = (m : Int) + 1 + ((y : Int) + (z : Int)) := IntWalk.i64_in _ (by omega)
          go_wp2_with fail
          rw [← HW1.out]
          clear hbd1
          go_region_held3 (fun w' => w'.cell? ⟨wr.heap.size, 3, none⟩ = some (.slice py x.body.length cy) ∧ w'.cell? ⟨wr.heap.size, 4, none⟩ = some (.slice pz x.els.length cz) ∧ Hid (Below w1.heap.size w1 w')) (first | exact lets_keep (by assumption) hb | exact ⟨c3, c4, Lib.hid (Below.refl _ _)⟩ | exact ⟨c3, c4, Lib.hid (Below.refl _ _).drew⟩ | go_keep) (first | (go_at_call 59; (with_reducible refine (K1.out _ (lets_below (by assumption))).mono ?_); rintro e w' ⟨rfl, hb⟩) | (go_at_call 59; (with_reducible refine (K2.out _ (lets_below (by assumption))).mono ?_); rintro e w' ⟨rfl, hb⟩))
          all_goals
            have hbf := lets_below (by assumption)
            clear hs1 hs2
            go_wp2_with fail
            go_roundw
            case rel => exact ⟨k + 1, m + 1 + (y + z), by go_num, by omega, by go_num, by rw [HNX.out, ← HM.out]; omega, below_next HBX.out hbf⟩
            case measure => simp [intOf]; omega
        · have hk1 : (x.kind == 0) = false := beq_eq_false_iff_ne.2 hk0
          have HNX := Lib.hid (show Ck.lets (l.take (k + 1)) = Ck.lets (l.take k) + (0 + y + z) by rw [hnext, if_neg hk0])
          clear hx hbr hsx hsy hsz hbd hnext htk hle dp1 dp2 dp3 hbx hw1 hk0 hy hz hm
          have hs1 : IntKind.i64.wrap ((y : Int) + (z : Int)) = (y : Int) + (z : Int) := IntWalk.i64_in _ (by omega)
          have hs2 : IntKind.i64.wrap ((m : Int) + ((y : Int) + (z : Int))) = (m : Int) + ((y : Int) + (z : Int)) := IntWalk.i64_in _ (by omega)
          go_wp2_with fail
          rw [← HW1.out]
          clear hbd1
          go_region_held3 (fun w' => w'.cell? ⟨wr.heap.size, 3, none⟩ = some (.slice py x.body.length cy) ∧ w'.cell? ⟨wr.heap.size, 4, none⟩ = some (.slice pz x.els.length cz) ∧ Hid (Below w1.heap.size w1 w')) (first | exact lets_keep (by assumption) hb | exact ⟨c3, c4, Lib.hid (Below.refl _ _)⟩ | exact ⟨c3, c4, Lib.hid (Below.refl _ _).drew⟩ | go_keep) (first | (go_at_call 59; (with_reducible refine (K1.out _ (lets_below (by assumption))).mono ?_); rintro e w' ⟨rfl, hb⟩) | (go_at_call 59; (with_reducible refine (K2.out _ (lets_below (by assumption))).mono ?_); rintro e w' ⟨rfl, hb⟩))
          all_goals
            have hbf := lets_below (by assumption)
            clear hs1 hs2
            go_wp2_with fail
            go_roundw
            case rel => exact ⟨k + 1, m + (y + z), by go_num, by omega, by go_num, by rw [HNX.out, ← HM.out]; omega, below_next HBX.out hbf⟩
            case measure => simp [intOf]; omega
      · have hfull : l.take k = l := List.take_of_length_le (by rw [HN.out]; omega)
        rw [hfull] at hm
        have HM2 := Lib.hid hm
        clear hbr hm hfull
        go_wp2
        go_ret
        exact ⟨by rw [HM2.out]; rfl, HBR.out⟩
end Go.Proofs.YtdafdbjdnebnfaaGreatDoor

namespace Go.Proofs.YtdafdbjdnebnfaaGreatDoor
open Go.RowKit

def faultRow (nm : ByteArray) (ts : List Nat) : List Value := ts.flatMap fun (t : Nat) => [Value.string nm, .int .i64 (t : Int)]
def foundTo (f : Nat → Bool) (k : Nat) : List Nat := (List.range k).filter f
theorem foundTo_yes {f : Nat → Bool} {k : Nat} (h : f k = true) : foundTo f (k + 1) = foundTo f k ++ [k] := by
  unfold foundTo; rw [List.range_succ, List.filter_append]; simp [h]
theorem foundTo_no {f : Nat → Bool} {k : Nat} (h : f k = false) : foundTo f (k + 1) = foundTo f k := by
  unfold foundTo; rw [List.range_succ, List.filter_append]; simp [h]
theorem foundTo_len (f : Nat → Bool) (k : Nat) : (foundTo f k).length ≤ k := by
  unfold foundTo
  have := List.length_filter_le f (List.range k)
  simpa using this
theorem faultRow_snoc (nm : ByteArray) (ts : List Nat) (t : Nat) : faultRow nm (ts ++ [t]) = faultRow nm ts ++ [.string nm, .int .i64 t] := by
  unfold faultRow; rw [List.flatMap_append]; rfl
theorem found_ix0 (x0 x1 x2 x3 x4 x5 x6 x7 x8 x9 x10 x11 x12 : Bool) (w : World) : (Instr.index 88 (.agg #[.bool x0, .bool x1, .bool x2, .bool x3, .bool x4, .bool x5, .bool x6, .bool x7, .bool x8, .bool x9, .bool x10, .bool x11, .bool x12]) (.int .i64 0)).run Tryz.prog w = .ok (.bool x0) w := by kernel_rfl
theorem found_ix1 (x0 x1 x2 x3 x4 x5 x6 x7 x8 x9 x10 x11 x12 : Bool) (w : World) : (Instr.index 88 (.agg #[.bool x0, .bool x1, .bool x2, .bool x3, .bool x4, .bool x5, .bool x6, .bool x7, .bool x8, .bool x9, .bool x10, .bool x11, .bool x12]) (.int .i64 1)).run Tryz.prog w = .ok (.bool x1) w := by kernel_rfl
theorem found_ix2 (x0 x1 x2 x3 x4 x5 x6 x7 x8 x9 x10 x11 x12 : Bool) (w : World) : (Instr.index 88 (.agg #[.bool x0, .bool x1, .bool x2, .bool x3, .bool x4, .bool x5, .bool x6, .bool x7, .bool x8, .bool x9, .bool x10, .bool x11, .bool x12]) (.int .i64 2)).run Tryz.prog w = .ok (.bool x2) w := by kernel_rfl
theorem found_ix3 (x0 x1 x2 x3 x4 x5 x6 x7 x8 x9 x10 x11 x12 : Bool) (w : World) : (Instr.index 88 (.agg #[.bool x0, .bool x1, .bool x2, .bool x3, .bool x4, .bool x5, .bool x6, .bool x7, .bool x8, .bool x9, .bool x10, .bool x11, .bool x12]) (.int .i64 3)).run Tryz.prog w = .ok (.bool x3) w := by kernel_rfl
theorem found_ix4 (x0 x1 x2 x3 x4 x5 x6 x7 x8 x9 x10 x11 x12 : Bool) (w : World) : (Instr.index 88 (.agg #[.bool x0, .bool x1, .bool x2, .bool x3, .bool x4, .bool x5, .bool x6, .bool x7, .bool x8, .bool x9, .bool x10, .bool x11, .bool x12]) (.int .i64 4)).run Tryz.prog w = .ok (.bool x4) w := by kernel_rfl
theorem found_ix5 (x0 x1 x2 x3 x4 x5 x6 x7 x8 x9 x10 x11 x12 : Bool) (w : World) : (Instr.index 88 (.agg #[.bool x0, .bool x1, .bool x2, .bool x3, .bool x4, .bool x5, .bool x6, .bool x7, .bool x8, .bool x9, .bool x10, .bool x11, .bool x12]) (.int .i64 5)).run Tryz.prog w = .ok (.bool x5) w := by kernel_rfl
theorem found_ix6 (x0 x1 x2 x3 x4 x5 x6 x7 x8 x9 x10 x11 x12 : Bool) (w : World) : (Instr.index 88 (.agg #[.bool x0, .bool x1, .bool x2, .bool x3, .bool x4, .bool x5, .bool x6, .bool x7, .bool x8, .bool x9, .bool x10, .bool x11, .bool x12]) (.int .i64 6)).run Tryz.prog w = .ok (.bool x6) w := by kernel_rfl
theorem found_ix7 (x0 x1 x2 x3 x4 x5 x6 x7 x8 x9 x10 x11 x12 : Bool) (w : World) : (Instr.index 88 (.agg #[.bool x0, .bool x1, .bool x2, .bool x3, .bool x4, .bool x5, .bool x6, .bool x7, .bool x8, .bool x9, .bool x10, .bool x11, .bool x12]) (.int .i64 7)).run Tryz.prog w = .ok (.bool x7) w := by kernel_rfl
theorem found_ix8 (x0 x1 x2 x3 x4 x5 x6 x7 x8 x9 x10 x11 x12 : Bool) (w : World) : (Instr.index 88 (.agg #[.bool x0, .bool x1, .bool x2, .bool x3, .bool x4, .bool x5, .bool x6, .bool x7, .bool x8, .bool x9, .bool x10, .bool x11, .bool x12]) (.int .i64 8)).run Tryz.prog w = .ok (.bool x8) w := by kernel_rfl
theorem found_ix9 (x0 x1 x2 x3 x4 x5 x6 x7 x8 x9 x10 x11 x12 : Bool) (w : World) : (Instr.index 88 (.agg #[.bool x0, .bool x1, .bool x2, .bool x3, .bool x4, .bool x5, .bool x6, .bool x7, .bool x8, .bool x9, .bool x10, .bool x11, .bool x12]) (.int .i64 9)).run Tryz.prog w = .ok (.bool x9) w := by kernel_rfl
theorem found_ix10 (x0 x1 x2 x3 x4 x5 x6 x7 x8 x9 x10 x11 x12 : Bool) (w : World) : (Instr.index 88 (.agg #[.bool x0, .bool x1, .bool x2, .bool x3, .bool x4, .bool x5, .bool x6, .bool x7, .bool x8, .bool x9, .bool x10, .bool x11, .bool x12]) (.int .i64 10)).run Tryz.prog w = .ok (.bool x10) w := by kernel_rfl
theorem found_ix11 (x0 x1 x2 x3 x4 x5 x6 x7 x8 x9 x10 x11 x12 : Bool) (w : World) : (Instr.index 88 (.agg #[.bool x0, .bool x1, .bool x2, .bool x3, .bool x4, .bool x5, .bool x6, .bool x7, .bool x8, .bool x9, .bool x10, .bool x11, .bool x12]) (.int .i64 11)).run Tryz.prog w = .ok (.bool x11) w := by kernel_rfl
theorem found_ix12 (x0 x1 x2 x3 x4 x5 x6 x7 x8 x9 x10 x11 x12 : Bool) (w : World) : (Instr.index 88 (.agg #[.bool x0, .bool x1, .bool x2, .bool x3, .bool x4, .bool x5, .bool x6, .bool x7, .bool x8, .bool x9, .bool x10, .bool x11, .bool x12]) (.int .i64 12)).run Tryz.prog w = .ok (.bool x12) w := by kernel_rfl
theorem found_index (f : Nat → Bool) {k : Nat} (hk : k < 13) (w : World) :
    (Instr.index 88 (.agg #[.bool (f 0), .bool (f 1), .bool (f 2), .bool (f 3), .bool (f 4), .bool (f 5), .bool (f 6), .bool (f 7), .bool (f 8), .bool (f 9), .bool (f 10), .bool (f 11), .bool (f 12)]) (.int .i64 k)).run Tryz.prog w = .ok (.bool (f k)) w := by
  match k, hk with
  | 0, _ => exact found_ix0 _ _ _ _ _ _ _ _ _ _ _ _ _ w
  | 1, _ => exact found_ix1 _ _ _ _ _ _ _ _ _ _ _ _ _ w
  | 2, _ => exact found_ix2 _ _ _ _ _ _ _ _ _ _ _ _ _ w
  | 3, _ => exact found_ix3 _ _ _ _ _ _ _ _ _ _ _ _ _ w
  | 4, _ => exact found_ix4 _ _ _ _ _ _ _ _ _ _ _ _ _ w
  | 5, _ => exact found_ix5 _ _ _ _ _ _ _ _ _ _ _ _ _ w
  | 6, _ => exact found_ix6 _ _ _ _ _ _ _ _ _ _ _ _ _ w
  | 7, _ => exact found_ix7 _ _ _ _ _ _ _ _ _ _ _ _ _ w
  | 8, _ => exact found_ix8 _ _ _ _ _ _ _ _ _ _ _ _ _ w
  | 9, _ => exact found_ix9 _ _ _ _ _ _ _ _ _ _ _ _ _ w
  | 10, _ => exact found_ix10 _ _ _ _ _ _ _ _ _ _ _ _ _ w
  | 11, _ => exact found_ix11 _ _ _ _ _ _ _ _ _ _ _ _ _ w
  | 12, _ => exact found_ix12 _ _ _ _ _ _ _ _ _ _ _ _ _ w
theorem faultInfo : (Tryz.prog.info? 56).map (fun i => (i.zero, i.size, i.bytes)) = some (some (.agg #[.string ⟨#[]⟩, .int .i64 0]), 2, 24) := by kernel_rfl
def ListPost (nm : ByteArray) (f : Nat → Bool) (w : World) (e : Ending) (w' : World) : Prop :=
  ∃ v, e = .returned v ∧ w'.ownsRow w.heap.size 56 2 v (Ck.found f).length (faultRow nm (Ck.found f)) ∧ Below w.heap.size w w'

set_option maxRecDepth 100000 in
set_option maxHeartbeats 2000000 in
theorem list_any (P : Nat) (nm : ByteArray) (w : World) (cv : Value) (c : Tr.C) (fv mv : Value) (f : Nat → Bool) (hP : PlaceAt w P cv c fv mv f) :
    Calls Tryz.prog 58 #[.pointer (some ⟨P, 0, none⟩), .string nm] w (ListPost nm f w) := by
  obtain ⟨i0, hi, hz0, hz1, hz2⟩ := info_parts faultInfo
  have p0 := hP.found (k := 0) (by omega)
  have p1 := hP.found (k := 1) (by omega)
  have p2 := hP.found (k := 2) (by omega)
  have p3 := hP.found (k := 3) (by omega)
  have p4 := hP.found (k := 4) (by omega)
  have p5 := hP.found (k := 5) (by omega)
  have p6 := hP.found (k := 6) (by omega)
  have p7 := hP.found (k := 7) (by omega)
  have p8 := hP.found (k := 8) (by omega)
  have p9 := hP.found (k := 9) (by omega)
  have p10 := hP.found (k := 10) (by omega)
  have p11 := hP.found (k := 11) (by omega)
  have p12 := hP.found (k := 12) (by omega)
  clear hP
  go_enter Tryz.func58, Tryz.ntmps58
  go_wp2
  clear p0 p1 p2 p3 p4 p5 p6 p7 p8 p9 p10 p11 p12
  go_loopw [5, 12] (fun v s12 wr => ∃ k : Nat, s12 = .int .i64 k ∧ k ≤ 13 ∧ wr.ownsRow w.heap.size 56 2 v (foundTo f k).length (faultRow nm (foundTo f k)) ∧ Below w.heap.size w wr) (fun _ s12 _ => 13 - (intOf s12).toNat)
  case atStart => exact ⟨0, rfl, by omega, by simpa [foundTo, faultRow] using World.ownsRow_nil w w.heap.size 56 2, Below.refl _ _⟩
  case round =>
    obtain ⟨k, rfl, hk, hown, hbr⟩ := hrel
    have hfl := foundTo_len f k
    have hsz := hbr.size
    by_cases hlt : k < 13
    · have hix := found_index f hlt
      cases hfk : f k
      · rw [hfk] at hix
        have HF := Lib.hid (foundTo_no hfk)
        clear hfk
        go_wp2
        go_roundw
        case rel => exact ⟨k + 1, by go_num, by omega, by rw [HF.out]; exact hown, hbr⟩
        case measure => simp [intOf]; omega
      · rw [hfk] at hix
        have HF := Lib.hid (foundTo_yes hfk)
        clear hfk
        go_wp2_with (at_builtin; refine wpList_append_own _ rfl _ _ 53 rfl w.heap.size 56 i0 (.agg #[.string ⟨#[]⟩, .int .i64 0]) 2 24 Tryz.underlying53 hi hz0 hz1 hz2 rfl (by decide) _ _ _ rfl (hown.alloc _) ⟨wr.heap.size, 0, none⟩ 1 1 [.string nm, .int .i64 k] rfl rfl (news_cells (cs := #[.string nm, .int .i64 k]) rfl (by simp)) (by simp [Value.oneCell']) (by unfold maxLen; omega) (by omega) (by simp <;> omega) ?_; intro v' wa howna hgrow hnil)
        go_roundw
        case rel => exact ⟨k + 1, by go_num, by omega, by rw [HF.out, faultRow_snoc, List.length_append]; exact howna, (hbr.alloc (by omega) _).grown hgrow (by simp <;> omega) fun q hq => (hown.lt q hq).1⟩
        case measure => simp [intOf]; omega
    · obtain rfl : k = 13 := by omega
      go_wp2
      go_ret
      exact ⟨_, rfl, hown, hbr⟩
end Go.Proofs.YtdafdbjdnebnfaaGreatDoor

namespace Go.Proofs.YtdafdbjdnebnfaaGreatDoor
namespace Ck
open Tr

def clsWord : Str := ⟨#[99, 108, 97, 115, 115, 32]⟩
def mthWord : Str := ⟨#[44, 32, 109, 101, 116, 104, 111, 100, 32]⟩
def clsText (c : C) : Str := clsWord ++ c.name
def mthText (c : C) (m : M) : Str := clsWord ++ c.name ++ mthWord ++ m.name
/-- the faults of methods, each with its place's text -/
def rowsM (cs : List C) (c : C) : List M → Nat → List (Str × Nat)
  | [], _ => []
  | m :: r, k => (found (faultM cs c k m)).map (fun t => (mthText c m, t)) ++ rowsM cs c r (k + 1)
def rowsC (cs : List C) : List C → Nat → List (Str × Nat)
  | [], _ => []
  | c :: r, i => (found (faultC cs i c)).map (fun t => (clsText c, t)) ++ rowsM cs c c.methods 0 ++ rowsC cs r (i + 1)
def rows (cs : List C) : List (Str × Nat) := rowsC cs cs 0
theorem rowsM_lines (cs : List C) (i : Nat) (c : C) : ∀ (l : List M) (k : Nat), (rowsM cs c l k).map Prod.snd = (faultsM cs i c l k).map F.line
  | [], k => rfl
  | m :: r, k => by rw [rowsM, faultsM, List.map_append, List.map_append, rowsM_lines cs i c r, List.map_map, List.map_map]; rfl
theorem rowsC_lines (cs : List C) : ∀ (l : List C) (i : Nat), (rowsC cs l i).map Prod.snd = (faultsC cs l i).map F.line
  | [], i => rfl
  | c :: r, i => by rw [rowsC, faultsC, List.map_append, List.map_append, List.map_append, List.map_append, rowsC_lines cs r, rowsM_lines cs i, List.map_map, List.map_map]; rfl
theorem rows_lines (cs : List C) : (rows cs).map Prod.snd = (faults cs).map F.line := rowsC_lines cs cs 0
theorem rowsM_snoc (cs : List C) (c : C) (m : M) : ∀ (l : List M) (k : Nat), rowsM cs c (l ++ [m]) k = rowsM cs c l k ++ (found (faultM cs c (k + l.length) m)).map (fun t => (mthText c m, t))
  | [], k => by simp [rowsM]
  | x :: r, k => by
    rw [List.cons_append, rowsM, rowsM, rowsM_snoc cs c m r, List.append_assoc, List.length_cons, show k + 1 + r.length = k + (r.length + 1) by omega]
theorem rowsC_snoc (cs : List C) (c : C) : ∀ (l : List C) (i : Nat), rowsC cs (l ++ [c]) i = rowsC cs l i ++ ((found (faultC cs (i + l.length) c)).map (fun t => (clsText c, t)) ++ rowsM cs c c.methods 0)
  | [], i => by simp [rowsC]
  | x :: r, i => by
    rw [List.cons_append, rowsC, rowsC, rowsC_snoc cs c r, List.length_cons, show i + 1 + r.length = i + (r.length + 1) by omega]
    simp only [List.append_assoc]
theorem found_len (f : Nat → Bool) : (found f).length ≤ 13 := by
  unfold found
  have := List.length_filter_le f (List.range 13)
  simpa using this
theorem rowsM_len (cs : List C) (c : C) : ∀ (l : List M) (k : Nat), (rowsM cs c l k).length ≤ 13 * l.length
  | [], k => by simp [rowsM]
  | m :: r, k => by
    rw [rowsM, List.length_append, List.length_map, List.length_cons]
    have := rowsM_len cs c r (k + 1)
    have := found_len (faultM cs c k m)
    omega
/-- how many classes and methods there are -/
def cnt : List C → Nat
  | [] => 0
  | c :: r => 1 + c.methods.length + cnt r
theorem rowsC_len (cs : List C) : ∀ (l : List C) (i : Nat), (rowsC cs l i).length ≤ 13 * cnt l
  | [], i => by simp [rowsC]
  | c :: r, i => by
    rw [rowsC, List.length_append, List.length_append, List.length_map, cnt]
    have := rowsC_len cs r (i + 1)
    have := rowsM_len cs c c.methods 0
    have := found_len (faultC cs i c)
    omega
theorem cnt_take : ∀ (l : List C) (k : Nat), cnt (l.take k) ≤ cnt l
  | [], k => by simp
  | c :: r, 0 => by simp [cnt]
  | c :: r, k + 1 => by rw [List.take_succ_cons, cnt, cnt]; have := cnt_take r k; omega
theorem cnt_get : ∀ (l : List C) (k : Nat) (c : C), l[k]? = some c → cnt (l.take k) + 1 + c.methods.length ≤ cnt l
  | [], k, c, h => by simp at h
  | x :: r, 0, c, h => by cases h; rw [List.take_zero, cnt, cnt]; omega
  | x :: r, k + 1, c, h => by rw [List.take_succ_cons, cnt, cnt]; have := cnt_get r k c (by simpa using h); omega
/-- what few nodes give -/
structure SmallM (m : M) : Prop where
  name : m.name.size ≤ 40
  params : m.params.length ≤ 1000000
  lets : m.params.length + lets m.body ≤ 1000000
structure SmallC (c : C) : Prop where
  name : c.name.size ≤ 40
  fields : c.fields.length ≤ 1000000
  mths : c.methods.length ≤ 1000000
  all : ∀ m ∈ c.methods, SmallM m
structure Small (cs : List C) : Prop where
  all : ∀ c ∈ cs, SmallC c
  cnt : cnt cs ≤ 1000000
mutual
theorem letsS_of : ∀ (s : S) (n : Int), 0 ≤ leftS s n → 0 ≤ n → (letsS s : Int) ≤ n - leftS s n
  | .mk k nm x b l, n, h, hn => by
    unfold leftS at h ⊢
    split at h
    · omega
    · rename_i h40
      rw [if_neg h40]
      simp only [] at h ⊢
      have a1 : 0 ≤ leftEs x (n - 1) := by
        rcases Int.lt_or_le (leftEs x (n - 1)) 0 with hlt | hge
        · rw [if_neg (by omega : ¬ 0 ≤ leftEs x (n - 1)), if_neg (by omega)] at h; omega
        · exact hge
      rw [if_pos a1] at h ⊢
      have a2 : 0 ≤ leftSs b (leftEs x (n - 1)) := by
        rcases Int.lt_or_le (leftSs b (leftEs x (n - 1))) 0 with hlt | hge
        · rw [if_neg (by omega)] at h; omega
        · exact hge
      rw [if_pos a2] at h ⊢
      have b1 := (leftEs_bd x (n - 1) (by omega)).2
      have b2 := lets_of b _ a2 a1
      have b3 := lets_of l _ h a2
      rw [letsS]
      split <;> omega
theorem lets_of : ∀ (l : List S) (n : Int), 0 ≤ leftSs l n → 0 ≤ n → (lets l : Int) ≤ n - leftSs l n
  | [], n, _, _ => by rw [lets, leftSs]; simp
  | s :: r, n, h, hn => by
    rw [leftSs, if_neg (by omega)] at h ⊢
    have a1 : 0 ≤ leftS s n := by
      rcases Int.lt_or_le (leftS s n) 0 with hlt | hge
      · rw [leftSs_neg hlt] at h; omega
      · exact hge
    have b1 := letsS_of s n a1 hn
    have b2 := lets_of r _ h a1
    rw [lets]
    omega
end
theorem shortL_len (l : List ByteArray) (n : Int) (h : 0 ≤ shortL l n) : (l.length : Int) ≤ n - shortL l n := by
  unfold shortL at h ⊢
  split at h
  · omega
  · rename_i hh; rw [if_neg hh]; omega
theorem smallM_of (m : M) (n : Int) (h : 0 ≤ leftM m n) (h0 : 0 ≤ n) (hn : n ≤ 1000000) : SmallM m ∧ leftM m n ≤ n - 1 := by
  unfold leftM at h ⊢
  split at h
  · omega
  · rename_i h40
    rw [if_neg h40]
    simp only [] at h ⊢
    have hs := shortL_le m.params (n - 1) (by omega)
    have a1 : 0 ≤ shortL m.params (n - 1) := by
      rcases Int.lt_or_le (shortL m.params (n - 1)) 0 with hlt | hge
      · rw [if_neg (by omega)] at h; omega
      · exact hge
    rw [if_pos a1] at h ⊢
    have b1 := shortL_len m.params (n - 1) a1
    have b2 := lets_of m.body _ h a1
    exact ⟨⟨by omega, by omega, by omega⟩, by have := (leftSs_bd m.body (shortL m.params (n - 1)) (by omega)).2; omega⟩
theorem smallMs_of : ∀ (l : List M) (n : Int), 0 ≤ leftMs l n → n ≤ 1000000 → (∀ m ∈ l, SmallM m) ∧ (l.length : Int) ≤ n - leftMs l n
  | [], n, _, _ => ⟨fun m hm => absurd hm (by simp), by rw [leftMs]; simp⟩
  | x :: r, n, h, hn => by
    by_cases h0 : n < 0
    · rw [leftMs, if_pos h0] at h; omega
    · rw [leftMs, if_neg h0] at h ⊢
      have a1 : 0 ≤ leftM x n := by
        have := leftMs_le r (leftM x n)
        omega
      obtain ⟨s1, s2⟩ := smallM_of x n a1 (by omega) hn
      obtain ⟨s3, s4⟩ := smallMs_of r _ h (by omega)
      refine ⟨fun m hm => ?_, by rw [List.length_cons]; omega⟩
      rcases List.mem_cons.1 hm with rfl | hm
      · exact s1
      · exact s3 m hm
theorem smallC_of (c : C) (n : Int) (h : 0 ≤ leftC c n) (h0 : 0 ≤ n) (hn : n ≤ 1000000) : SmallC c ∧ (c.methods.length : Int) + 1 ≤ n - leftC c n := by
  unfold leftC at h ⊢
  split at h
  · omega
  · rename_i h40
    rw [if_neg h40]
    have hs := shortL_le c.fields (n - 1) (by omega)
    have a1 : 0 ≤ shortL c.fields (n - 1) := by
      have := leftMs_le c.methods (shortL c.fields (n - 1))
      omega
    have b1 := shortL_len c.fields (n - 1) a1
    obtain ⟨s3, s4⟩ := smallMs_of c.methods _ h (by omega)
    exact ⟨⟨by omega, by omega, by omega, s3⟩, by omega⟩
theorem smallCs_of : ∀ (l : List C) (n : Int), 0 ≤ leftCs l n → n ≤ 1000000 → (∀ c ∈ l, SmallC c) ∧ (cnt l : Int) ≤ n - leftCs l n
  | [], n, _, _ => ⟨fun m hm => absurd hm (by simp), by rw [leftCs, cnt]; simp⟩
  | x :: r, n, h, hn => by
    by_cases h0 : n < 0
    · rw [leftCs, if_pos h0] at h; omega
    · rw [leftCs, if_neg h0] at h ⊢
      have a1 : 0 ≤ leftC x n := by
        have := leftCs_le r (leftC x n)
        omega
      obtain ⟨s1, s2⟩ := smallC_of x n a1 (by omega) hn
      obtain ⟨s3, s4⟩ := smallCs_of r _ h (by omega)
      refine ⟨fun m hm => ?_, by rw [cnt]; omega⟩
      rcases List.mem_cons.1 hm with rfl | hm
      · exact s1
      · exact s3 m hm
theorem small_of {cs : List C} {n : Int} (h : fewP cs n = true) (hn : n ≤ 1000000) : Small cs := by
  have h0 : 0 ≤ leftCs cs n := of_decide_eq_true h
  obtain ⟨s1, s2⟩ := smallCs_of cs n h0 hn
  exact ⟨s1, by omega⟩
end Ck
end Go.Proofs.YtdafdbjdnebnfaaGreatDoor
