/-
  Renaming a variable throughout a method to a name that does not occur there leaves the faults as they are. No program in sight.
-/
import Derived.Test.YtdafdbjdnebnfaaGreatDoorCkA
namespace Go.Proofs.YtdafdbjdnebnfaaGreatDoor
namespace Ck
open Tr

def ren (f t x : Str) : Str := if x = f then t else x
mutual
def renE (f t : Str) : E → E
  | .mk k o i nm a l => .mk k o i (if k = 3 ∧ nm = f then t else nm) a (renEs f t l)
def renEs (f t : Str) : List E → List E
  | [] => []
  | e :: r => renE f t e :: renEs f t r
end
mutual
def renS (f t : Str) : S → S
  | .mk k nm x b l => .mk k (if (k = 0 ∨ k = 1) ∧ nm = f then t else nm) (renEs f t x) (renSs f t b) (renSs f t l)
def renSs (f t : Str) : List S → List S
  | [] => []
  | s :: r => renS f t s :: renSs f t r
end
mutual
def usesE (t : Str) : E → Bool
  | .mk k _ _ nm _ l => usesEs t l || (decide (k = 3) && decide (nm = t))
def usesEs (t : Str) : List E → Bool
  | [] => false
  | e :: r => usesE t e || usesEs t r
end
mutual
def usesS (t : Str) : S → Bool
  | .mk k nm x b l => (decide (k = 0 ∨ k = 1) && decide (nm = t)) || usesSs t b || usesSs t l || usesEs t x
def usesSs (t : Str) : List S → Bool
  | [] => false
  | s :: r => usesS t s || usesSs t r
end
theorem ren_inj {f t x y : Str} (hx : x ≠ t) (hy : y ≠ t) : ren f t x = ren f t y ↔ x = y := by
  unfold ren
  by_cases h1 : x = f <;> by_cases h2 : y = f <;> simp [h1, h2]
  · exact ⟨fun e => absurd e.symm hy, fun e => absurd e.symm h2⟩
  · exact fun e => absurd e hx
def Off (t : Str) (vars : List Str) : Prop := ∀ v ∈ vars, v ≠ t
theorem hasS_ren {f t nm : Str} {vars : List Str} (hv : Off t vars) (hn : nm ≠ t) : hasS (vars.map (ren f t)) (ren f t nm) = hasS vars nm := by
  unfold hasS
  rw [List.any_map]
  induction vars with
  | nil => rfl
  | cons x r ih =>
    rw [List.any_cons, List.any_cons, ih (fun v h => hv v (List.mem_cons_of_mem _ h))]
    congr 1
    show decide (ren f t x = ren f t nm) = decide (x = nm)
    rw [Bool.eq_iff_iff, decide_eq_true_eq, decide_eq_true_eq]
    exact ren_inj (hv x (List.mem_cons_self ..)) hn
theorem twice_ren {f t : Str} : ∀ {vars : List Str}, Off t vars → twice (vars.map (ren f t)) = twice vars
  | [], _ => rfl
  | x :: r, hv => by
    have hr : Off t r := fun v h => hv v (List.mem_cons_of_mem _ h)
    rw [List.map_cons, twice, twice, hasS_ren hr (hv x (List.mem_cons_self ..)), twice_ren hr]
theorem renEs_len (f t : Str) : ∀ l, (renEs f t l).length = l.length
  | [] => rfl
  | e :: r => by rw [renEs, List.length_cons, List.length_cons, renEs_len f t r]
theorem renSs_len (f t : Str) : ∀ l, (renSs f t l).length = l.length
  | [] => rfl
  | e :: r => by rw [renSs, List.length_cons, List.length_cons, renSs_len f t r]
theorem renE_kind (f t : Str) (e : E) : (renE f t e).kind = e.kind := by cases e; rw [renE]; rfl
theorem head_ren (f t : Str) (l : List E) : headKind (renEs f t l) = headKind l := by
  cases l with
  | nil => rfl
  | cons e r => rw [renEs]; exact renE_kind f t e
theorem ownE_ren {cs : List C} {fs vars : List Str} {f t : Str} {k : Int} {nm : Str} {a : Bool} {l : List E} (hv : Off t vars) (hn : k = 3 → nm ≠ t) (s : Nat) :
    ownE cs fs (vars.map (ren f t)) k (if k = 3 ∧ nm = f then t else nm) a (renEs f t l) s = ownE cs fs vars k nm a l s := by
  by_cases h3 : k = 3
  · subst h3
    have e : (if (3 : Int) = 3 ∧ nm = f then t else nm) = ren f t nm := by unfold ren; by_cases h : nm = f <;> simp [h]
    unfold ownE
    rw [if_pos rfl, if_pos rfl, e, hasS_ren hv (hn rfl)]
  · rw [if_neg (fun h => h3 h.1)]
    unfold ownE
    rw [if_neg h3, if_neg h3, head_ren, renEs_len]
mutual
theorem faultE_ren {cs : List C} {fs vars : List Str} {f t : Str} (hv : Off t vars) (s : Nat) : ∀ (e : E), usesE t e = false → faultE cs fs (vars.map (ren f t)) (renE f t e) s = faultE cs fs vars e s
  | .mk k o i nm a l, h => by
    rw [usesE, Bool.or_eq_false_iff] at h
    rw [renE, faultE, faultE, faultEs_ren hv s l h.1, ownE_ren hv (fun hk hn => by
      have := h.2
      rw [decide_eq_true hk, decide_eq_true hn] at this
      cases this)]
theorem faultEs_ren {cs : List C} {fs vars : List Str} {f t : Str} (hv : Off t vars) (s : Nat) : ∀ (l : List E), usesEs t l = false → faultEs cs fs (vars.map (ren f t)) (renEs f t l) s = faultEs cs fs vars l s
  | [], _ => by rw [renEs, faultEs, faultEs]
  | e :: r, h => by
    rw [usesEs, Bool.or_eq_false_iff] at h
    rw [renEs, faultEs, faultEs, faultE_ren hv s e h.1, faultEs_ren hv s r h.2]
end
theorem ownS_ren {c : C} {vars : List Str} {f t : Str} {k : Int} {nm : Str} {x : List E} (hv : Off t vars) (hn : (k = 0 ∨ k = 1) → nm ≠ t) (s : Nat) :
    ownS c (vars.map (ren f t)) k (if (k = 0 ∨ k = 1) ∧ nm = f then t else nm) (renEs f t x) s = ownS c vars k nm x s := by
  by_cases h : k = 0 ∨ k = 1
  · have e : (if (k = 0 ∨ k = 1) ∧ nm = f then t else nm) = ren f t nm := by unfold ren; by_cases h2 : nm = f <;> simp [h, h2]
    rw [e]
    unfold ownS
    rcases h with h | h
    · subst h; rw [if_pos rfl, if_pos rfl, hasS_ren hv (hn (.inl rfl))]
    · subst h; rw [if_neg (by decide), if_pos rfl, if_neg (by decide), if_pos rfl, hasS_ren hv (hn (.inr rfl))]
  · rw [if_neg (fun hh => h hh.1)]
    have h0 : ¬ k = 0 := fun e => h (.inl e)
    have h1 : ¬ k = 1 := fun e => h (.inr e)
    unfold ownS
    rw [if_neg h0, if_neg h1, if_neg h0, if_neg h1, head_ren]
theorem addVar_ren {vars : List Str} {f t : Str} {k : Int} {nm : Str} : addVar k (if (k = 0 ∨ k = 1) ∧ nm = f then t else nm) (vars.map (ren f t)) = (addVar k nm vars).map (ren f t) := by
  unfold addVar
  by_cases h : k = 0
  · rw [if_pos h, if_pos h, List.map_append]
    congr 1
    rw [List.map_cons, List.map_nil]
    congr 1
    unfold ren
    by_cases h2 : nm = f <;> simp [h, h2]
  · rw [if_neg h, if_neg h]
theorem addVar_off {vars : List Str} {t : Str} {k : Int} {nm : Str} (hv : Off t vars) (hn : (k = 0 ∨ k = 1) → nm ≠ t) : Off t (addVar k nm vars) := by
  unfold addVar
  by_cases h : k = 0
  · rw [if_pos h]
    intro v hm
    rcases List.mem_append.1 hm with hm | hm
    · exact hv v hm
    · obtain rfl := List.mem_singleton.1 hm; exact hn (.inl h)
  · rw [if_neg h]; exact hv
theorem uses_name {k : Int} {nm t : Str} (h : (decide (k = 0 ∨ k = 1) && decide (nm = t)) = false) : (k = 0 ∨ k = 1) → nm ≠ t := fun hk hn => by
  rw [decide_eq_true hk, decide_eq_true hn] at h
  cases h
mutual
theorem faultS_ren {cs : List C} {c : C} {f t : Str} (s : Nat) : ∀ (x : S) (vars : List Str), Off t vars → usesS t x = false → faultS cs c (renS f t x) (vars.map (ren f t)) s = faultS cs c x vars s
  | .mk k nm x b l, vars, hv, h => by
    rw [usesS, Bool.or_eq_false_iff, Bool.or_eq_false_iff, Bool.or_eq_false_iff] at h
    have hn := uses_name h.1.1.1
    rw [renS, faultS, faultS, faultEs_ren hv s x h.2, ownS_ren hv hn, addVar_ren, faultSs_ren s b _ (addVar_off hv hn) h.1.1.2, faultSs_ren s l _ (addVar_off hv hn) h.1.2]
theorem faultSs_ren {cs : List C} {c : C} {f t : Str} (s : Nat) : ∀ (l : List S) (vars : List Str), Off t vars → usesSs t l = false → faultSs cs c (renSs f t l) (vars.map (ren f t)) s = faultSs cs c l vars s
  | [], vars, _, _ => by rw [renSs, faultSs, faultSs]
  | .mk k nm x b l :: r, vars, hv, h => by
    rw [usesSs, Bool.or_eq_false_iff] at h
    have h1 := h.1
    rw [usesS, Bool.or_eq_false_iff, Bool.or_eq_false_iff, Bool.or_eq_false_iff] at h1
    have hn := uses_name h1.1.1.1
    have e1 := faultS_ren (cs := cs) (c := c) (f := f) s (.mk k nm x b l) vars hv h.1
    rw [renS] at e1
    rw [renSs, renS, faultSs, faultSs, e1, addVar_ren, faultSs_ren s r _ (addVar_off hv hn) h.2]
end
mutual
theorem letsS_ren (f t : Str) : ∀ s, letsS (renS f t s) = letsS s
  | .mk k nm x b l => by rw [renS, letsS, letsS, lets_ren f t b, lets_ren f t l]
theorem lets_ren (f t : Str) : ∀ l, lets (renSs f t l) = lets l
  | [] => by rw [renSs]
  | s :: r => by rw [renSs, lets, lets, letsS_ren f t s, lets_ren f t r]
end
/-! ### another program with the same names -/
theorem ownE_same {cs cs' : List C} (h1 : ∀ nm, classAt cs' nm = classAt cs nm) (h2 : ∀ i : Nat, (cs'[i]?.map fun c => (c.fields.length : Int)) = (cs[i]?.map fun c => (c.fields.length : Int))) (fs vars : List Str) (k : Int) (nm : Str) (a : Bool) (l : List E) (s : Nat) :
    ownE cs' fs vars k nm a l s = ownE cs fs vars k nm a l s := by
  unfold ownE
  rw [h1]
  cases hc : classAt cs nm with
  | none => rfl
  | some i => simp only [h2]
mutual
theorem faultE_same {cs cs' : List C} (h1 : ∀ nm, classAt cs' nm = classAt cs nm) (h2 : ∀ i : Nat, (cs'[i]?.map fun c => (c.fields.length : Int)) = (cs[i]?.map fun c => (c.fields.length : Int))) (fs vars : List Str) (s : Nat) : ∀ e, faultE cs' fs vars e s = faultE cs fs vars e s
  | .mk k o i nm a l => by rw [faultE, faultE, ownE_same h1 h2, faultEs_same h1 h2 fs vars s l]
theorem faultEs_same {cs cs' : List C} (h1 : ∀ nm, classAt cs' nm = classAt cs nm) (h2 : ∀ i : Nat, (cs'[i]?.map fun c => (c.fields.length : Int)) = (cs[i]?.map fun c => (c.fields.length : Int))) (fs vars : List Str) (s : Nat) : ∀ l, faultEs cs' fs vars l s = faultEs cs fs vars l s
  | [] => by rw [faultEs, faultEs]
  | e :: r => by rw [faultEs, faultEs, faultE_same h1 h2 fs vars s e, faultEs_same h1 h2 fs vars s r]
end
/-- two classes that the checker cannot tell apart from a method's inside -/
structure Like (c c' : C) : Prop where
  name : c'.name = c.name
  fields : c'.fields = c.fields
  len : c'.methods.length = c.methods.length
  at_ : ∀ nm, methodAt c'.methods nm = methodAt c.methods nm
  par : ∀ i : Nat, (c'.methods[i]?.map fun m => m.params.length) = (c.methods[i]?.map fun m => m.params.length)
theorem Like.refl (c : C) : Like c c := ⟨rfl, rfl, rfl, fun _ => rfl, fun _ => rfl⟩
theorem ownS_same {c c' : C} (h : Like c c') (vars : List Str) (k : Int) (nm : Str) (x : List E) (s : Nat) : ownS c' vars k nm x s = ownS c vars k nm x s := by
  unfold ownS
  rw [h.fields, h.at_]
  cases hc : methodAt c.methods nm with
  | none => rfl
  | some i => simp only [h.par]
mutual
theorem faultS_same {cs cs' : List C} {c c' : C} (h1 : ∀ nm, classAt cs' nm = classAt cs nm) (h2 : ∀ i : Nat, (cs'[i]?.map fun c => (c.fields.length : Int)) = (cs[i]?.map fun c => (c.fields.length : Int))) (h : Like c c') (s : Nat) : ∀ (x : S) (vars : List Str), faultS cs' c' x vars s = faultS cs c x vars s
  | .mk k nm x b l, vars => by
    rw [faultS, faultS, h.fields, faultEs_same h1 h2, ownS_same h, faultSs_same h1 h2 h s b, faultSs_same h1 h2 h s l]
theorem faultSs_same {cs cs' : List C} {c c' : C} (h1 : ∀ nm, classAt cs' nm = classAt cs nm) (h2 : ∀ i : Nat, (cs'[i]?.map fun c => (c.fields.length : Int)) = (cs[i]?.map fun c => (c.fields.length : Int))) (h : Like c c') (s : Nat) : ∀ (l : List S) (vars : List Str), faultSs cs' c' l vars s = faultSs cs c l vars s
  | [], vars => by rw [faultSs, faultSs]
  | .mk k nm x b l :: r, vars => by rw [faultSs, faultSs, faultS_same h1 h2 h s, faultSs_same h1 h2 h s r]
end
/-- the renamed method -/
def renM (f t : Str) (m : M) : M := ⟨m.name, m.params.map (ren f t), renSs f t m.body⟩
theorem faultM_ren {cs cs' : List C} {c c' : C} (h1 : ∀ nm, classAt cs' nm = classAt cs nm) (h2 : ∀ i : Nat, (cs'[i]?.map fun c => (c.fields.length : Int)) = (cs[i]?.map fun c => (c.fields.length : Int))) (h : Like c c') {f t : Str} {m : M} (hp : Off t m.params) (hu : usesSs t m.body = false) (k s : Nat) :
    faultM cs' c' k (renM f t m) s = faultM cs c k m s := by
  unfold faultM renM
  simp only []
  rw [h.at_, List.length_map, lets_ren, twice_ren hp, faultSs_same h1 h2 h, faultSs_ren s m.body m.params hp hu]
theorem faultM_same {cs cs' : List C} {c c' : C} (h1 : ∀ nm, classAt cs' nm = classAt cs nm) (h2 : ∀ i : Nat, (cs'[i]?.map fun c => (c.fields.length : Int)) = (cs[i]?.map fun c => (c.fields.length : Int))) (h : Like c c') (m : M) (k s : Nat) :
    faultM cs' c' k m s = faultM cs c k m s := by
  unfold faultM
  rw [h.at_, faultSs_same h1 h2 h]
theorem findIdx_set {α : Type} {p : α → Bool} : ∀ (l : List α) (i : Nat) (x y : α), l[i]? = some x → p y = p x → (l.set i y).findIdx? p = l.findIdx? p
  | [], i, x, y, h, _ => by simp at h
  | a :: r, 0, x, y, h, hp => by
    simp only [List.getElem?_cons_zero, Option.some.injEq] at h
    subst h
    rw [List.set_cons_zero, List.findIdx?_cons, List.findIdx?_cons, hp]
  | a :: r, i + 1, x, y, h, hp => by
    rw [List.getElem?_cons_succ] at h
    rw [List.set_cons_succ, List.findIdx?_cons, List.findIdx?_cons, findIdx_set r i x y h hp]
theorem map_set {α β : Type} {g : α → β} {l : List α} {i : Nat} {x y : α} (h : l[i]? = some x) (hg : g y = g x) (j : Nat) : ((l.set i y)[j]?.map g) = (l[j]?.map g) := by
  rw [List.getElem?_set]
  by_cases e : i = j
  · subst e
    have hlt := (List.getElem?_eq_some_iff.1 h).1
    rw [if_pos rfl, if_pos hlt, h]
    simp [hg]
  · rw [if_neg e]
theorem faultsM_ext {cs cs' : List C} {i : Nat} {c c' : C} : ∀ (l l' : List M) (k : Nat), l'.length = l.length → (∀ j m m', l[j]? = some m → l'[j]? = some m' → ∀ s, faultM cs' c' (k + j) m' s = faultM cs c (k + j) m s) → faultsM cs' i c' l' k = faultsM cs i c l k
  | [], [], k, _, _ => rfl
  | m :: r, m' :: r', k, hl, h => by
    rw [faultsM, faultsM, faultsM_ext r r' (k + 1) (by simpa using hl) (fun j a b ha hb s => by
      have := h (j + 1) a b (by simpa using ha) (by simpa using hb) s
      rw [show k + 1 + j = k + (j + 1) by omega]; exact this)]
    have e : faultM cs' c' k m' = faultM cs c k m := funext fun s => by have := h 0 m m' rfl rfl s; rw [Nat.add_zero] at this; exact this
    rw [e]
  | [], _ :: _, _, hl, _ => by simp at hl
  | _ :: _, [], _, hl, _ => by simp at hl
theorem faultsC_ext {cs cs' : List C} : ∀ (l l' : List C) (i : Nat), l'.length = l.length → (∀ j c c', l[j]? = some c → l'[j]? = some c' → (∀ s, faultC cs' (i + j) c' s = faultC cs (i + j) c s) ∧ faultsM cs' (i + j) c' c'.methods 0 = faultsM cs (i + j) c c.methods 0) → faultsC cs' l' i = faultsC cs l i
  | [], [], i, _, _ => rfl
  | c :: r, c' :: r', i, hl, h => by
    rw [faultsC, faultsC, faultsC_ext r r' (i + 1) (by simpa using hl) (fun j a b ha hb => by
      have := h (j + 1) a b (by simpa using ha) (by simpa using hb)
      rw [show i + 1 + j = i + (j + 1) by omega]; exact this)]
    obtain ⟨g1, g2⟩ := h 0 c c' rfl rfl
    rw [Nat.add_zero] at g1 g2
    have e : faultC cs' i c' = faultC cs i c := funext g1
    rw [e, g2]
  | [], _ :: _, _, hl, _ => by simp at hl
  | _ :: _, [], _, hl, _ => by simp at hl
/-- the program in which method k of class at is renamed -/
def renC (f t : Str) (k : Nat) (m : M) (c : C) : C := ⟨c.name, c.actor, c.fields, c.methods.set k (renM f t m)⟩
theorem like_ren {f t : Str} {k : Nat} {m : M} {c : C} (hk : c.methods[k]? = some m) : Like c (renC f t k m c) :=
  ⟨rfl, rfl, List.length_set .., fun nm => findIdx_set c.methods k m _ hk rfl, fun i => map_set hk (by unfold renM; rw [List.length_map]) i⟩
theorem faults_ren {cs : List C} {f t : Str} {at_ k : Nat} {c : C} {m : M} (hc : cs[at_]? = some c) (hk : c.methods[k]? = some m) (hp : Off t m.params) (hu : usesSs t m.body = false) : faults (cs.set at_ (renC f t k m c)) = faults cs := by
  have h1 : ∀ nm, classAt (cs.set at_ (renC f t k m c)) nm = classAt cs nm := fun nm => findIdx_set cs at_ c _ hc rfl
  have h2 : ∀ i : Nat, ((cs.set at_ (renC f t k m c))[i]?.map fun c => (c.fields.length : Int)) = (cs[i]?.map fun c => (c.fields.length : Int)) := fun i => map_set (g := fun c : C => (c.fields.length : Int)) (y := renC f t k m c) hc rfl i
  unfold faults
  refine faultsC_ext cs _ 0 (List.length_set ..) (fun j d d' hd hd' => ?_)
  rw [Nat.zero_add]
  rw [List.getElem?_set] at hd'
  by_cases e : at_ = j
  · subst e
    rw [if_pos rfl, if_pos (List.getElem?_eq_some_iff.1 hc).1] at hd'
    cases hd'
    rw [hc] at hd
    cases hd
    have hl := like_ren (f := f) (t := t) hk
    refine ⟨fun s => ?_, faultsM_ext _ _ 0 hl.len (fun i a b ha hb s => ?_)⟩
    · unfold faultC
      rw [h1, hl.len]
      rfl
    · rw [Nat.zero_add]
      have hb' : (c.methods.set k (renM f t m))[i]? = some b := hb
      rw [List.getElem?_set] at hb'
      by_cases e2 : k = i
      · subst e2
        rw [if_pos rfl, if_pos (List.getElem?_eq_some_iff.1 hk).1] at hb'
        cases hb'
        rw [hk] at ha
        cases ha
        exact faultM_ren h1 h2 hl hp hu k s
      · rw [if_neg e2, ha] at hb'
        cases hb'
        exact faultM_same h1 h2 hl a i s
  · rw [if_neg e, hd] at hd'
    cases hd'
    refine ⟨fun s => ?_, faultsM_ext _ _ 0 rfl (fun i a b ha hb s => ?_)⟩
    · unfold faultC; rw [h1]
    · rw [ha] at hb; cases hb; exact faultM_same h1 h2 (Like.refl d) a (0 + i) s
/-! ### validity -/
theorem okE_ren {k o i : Int} {nm f t : Str} {a : Bool} {n : Nat} (ht : varB t = true) (h : okE k o i nm a n = true) : okE k o i (if k = 3 ∧ nm = f then t else nm) a n = true := by
  by_cases h3 : k = 3 ∧ nm = f
  · rw [if_pos h3]
    obtain ⟨rfl, rfl⟩ := h3
    unfold okE at h ⊢
    rw [Bool.and_eq_true] at h ⊢
    refine ⟨h.1, ?_⟩
    have h2 := h.2
    rw [if_neg (by decide), if_neg (by decide), if_neg (by decide), if_pos rfl, Bool.and_eq_true] at h2 ⊢
    exact ⟨h2.1, ht⟩
  · rw [if_neg h3]; exact h
mutual
theorem validE_ren {f t : Str} (ht : varB t = true) : ∀ e, validE e = true → validE (renE f t e) = true
  | .mk k o i nm a l, h => by
    rw [validE, Bool.and_eq_true] at h
    rw [renE, validE, Bool.and_eq_true, renEs_len]
    exact ⟨validEs_ren ht l h.1, okE_ren ht h.2⟩
theorem validEs_ren {f t : Str} (ht : varB t = true) : ∀ l, validEs l = true → validEs (renEs f t l) = true
  | [], _ => by rw [renEs]; rfl
  | e :: r, h => by
    rw [validEs, Bool.and_eq_true] at h
    rw [renEs, validEs, Bool.and_eq_true]
    exact ⟨validE_ren ht e h.1, validEs_ren ht r h.2⟩
end
theorem okS_ren {k : Int} {nm f t : Str} {n nb ne : Nat} (ht : varB t = true) (h : okS k nm n nb ne = true) : okS k (if (k = 0 ∨ k = 1) ∧ nm = f then t else nm) n nb ne = true := by
  by_cases h3 : (k = 0 ∨ k = 1) ∧ nm = f
  · rw [if_pos h3]
    obtain ⟨hk, rfl⟩ := h3
    unfold okS at h ⊢
    rcases hk with rfl | rfl
    · rw [if_pos rfl, Bool.and_eq_true] at h ⊢; exact ⟨h.1, ht⟩
    · rw [if_neg (by decide), if_pos rfl, Bool.and_eq_true] at h ⊢; exact ⟨h.1, ht⟩
  · rw [if_neg h3]; exact h
mutual
theorem validS_ren {f t : Str} (ht : varB t = true) : ∀ s, validS s = true → validS (renS f t s) = true
  | .mk k nm x b l, h => by
    rw [validS, Bool.and_eq_true, Bool.and_eq_true, Bool.and_eq_true] at h
    rw [renS, validS, Bool.and_eq_true, Bool.and_eq_true, Bool.and_eq_true, renEs_len, renSs_len, renSs_len]
    exact ⟨⟨⟨validEs_ren ht x h.1.1.1, okS_ren ht h.1.1.2⟩, validSs_ren ht b h.1.2⟩, validSs_ren ht l h.2⟩
theorem validSs_ren {f t : Str} (ht : varB t = true) : ∀ l, validSs l = true → validSs (renSs f t l) = true
  | [], _ => by rw [renSs]; rfl
  | s :: r, h => by
    rw [validSs, Bool.and_eq_true] at h
    rw [renSs, validSs, Bool.and_eq_true]
    exact ⟨validS_ren ht s h.1, validSs_ren ht r h.2⟩
end
theorem all_set {α : Type} {p : α → Bool} {l : List α} {i : Nat} {y : α} (h : l.all p = true) (hy : p y = true) : (l.set i y).all p = true := by
  rw [List.all_eq_true] at h ⊢
  intro x hx
  rcases List.mem_or_eq_of_mem_set hx with hx | rfl
  · exact h x hx
  · exact hy
theorem validM_ren {f t : Str} (ht : varB t = true) {m : M} (h : validM m = true) : validM (renM f t m) = true := by
  unfold validM at h ⊢
  rw [Bool.and_eq_true, Bool.and_eq_true] at h ⊢
  refine ⟨⟨h.1.1, ?_⟩, validSs_ren ht m.body h.2⟩
  show (m.params.map (ren f t)).all varB = true
  rw [List.all_map, List.all_eq_true]
  intro x hx
  have := h.1.2
  rw [List.all_eq_true] at this
  show varB (ren f t x) = true
  unfold ren
  split
  · exact ht
  · exact this x hx
theorem valid_ren {cs : List C} {f t : Str} (ht : varB t = true) {at_ k : Nat} {c : C} {m : M} (hc : cs[at_]? = some c) (hk : c.methods[k]? = some m) (h : validP cs = true) : validP (cs.set at_ (renC f t k m c)) = true := by
  unfold validP at h ⊢
  refine all_set h ?_
  have h1 := List.all_eq_true.1 h c (List.mem_of_getElem? hc)
  unfold validC at h1 ⊢
  rw [Bool.and_eq_true, Bool.and_eq_true, Bool.and_eq_true] at h1 ⊢
  have hm := List.all_eq_true.1 h1.2 m (List.mem_of_getElem? hk)
  refine ⟨⟨h1.1.1, ?_⟩, all_set h1.2 (validM_ren ht hm)⟩
  have := h1.1.2
  show (c.actor || decide ((c.methods.set k (renM f t m)).length = 0)) = true
  rw [List.length_set]
  exact this
theorem check_ren {cs : List C} {f t : Str} (ht : varB t = true) {at_ k : Nat} {c : C} {m : M} (hc : cs[at_]? = some c) (hk : c.methods[k]? = some m) (hp : Off t m.params) (hu : usesSs t m.body = false) (h : validP cs = true) : check (cs.set at_ (renC f t k m c)) = check cs := by
  unfold check
  rw [if_pos h, if_pos (valid_ren ht hc hk h), faults_ren hc hk hp hu]
end Ck
end Go.Proofs.YtdafdbjdnebnfaaGreatDoor
