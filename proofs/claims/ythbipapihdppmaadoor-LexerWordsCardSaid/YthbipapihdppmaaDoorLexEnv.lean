/-
  From what the rows list of the package-level variables to what the lexer's walks ask of memory.
-/
import Derived.Test.YthbipapihdppmaaDoorLexProgB
import Derived.Test.YthbipapihdppmaaDoorCards
import Derived.ProofKit
import Derived.OpenShut
import Derived.SliceStrings
import Derived.LaidLaws
namespace Go.Proofs.YthbipapihdppmaaDoor
open Go.RowKit Go.ChangeShapes Go.WideShapes

theorem laidVars_at {P : Program} {W : World} : ∀ {l : List (String × DataW Unit)} {ps : List MemPlace}, DataW.LaidVars P W l ps → ∀ {n : String} {d : DataW Unit}, (n, d) ∈ l →
    ∃ g t cs fuel p, P.globalNamed n = some g ∧ (P.globals[g]?).map (·.type) = some t ∧ W.var? P n = some cs ∧ DataW.trod (fun _ => ()) P W 0 (fun _ => true) false fuel t cs.toList = some (d, p)
  | [], _, _, _, _, hm => by simp at hm
  | (n', d') :: r, ps, h, n, d, hm => by
    obtain ⟨g, t, cs, fuel, p, q, h1, h2, h3, h4, h5, _⟩ := h
    rcases List.mem_cons.1 hm with e | hm
    · cases e
      exact ⟨g, t, cs, fuel, p, h1, h2, h3, h4⟩
    · exact laidVars_at h5 hm

theorem laid_at {P : Program} {W : World} {l : List (String × DataW Unit)} (h : laidMet P l W) {n : String} {d : DataW Unit} (hm : (n, d) ∈ l) :
    ∃ g t cs fuel p, P.globalNamed n = some g ∧ (P.globals[g]?).map (·.type) = some t ∧ W.var? P n = some cs ∧ DataW.trod (fun _ => ()) P W 0 (fun _ => true) false fuel t cs.toList = some (d, p) := by
  obtain ⟨ps, h1, _⟩ := h
  exact laidVars_at h1 hm

/-- a slice of strings that is listed: its cells -/
theorem strings_at {W : World} {l : List (String × DataW Unit)} (h : laidMet Tryd.prog l W) {n : String} {g : Nat} (ls : List (List UInt8)) (hne : ls ≠ [])
    (hm : (n, DataW.slice (ls.map fun x => .lit (.string x)) []) ∈ l) (hg : Tryd.prog.globalNamed n = some g) (hty : (Tryd.prog.globals[g]?).map (·.type) = some 36) (hcs : Tryd.prog.cellsOf 9 = 1) :
    ∃ b o c, W.cell? ⟨g, 0, none⟩ = some (.slice (some ⟨b, o, none⟩) ls.length c) ∧ ∀ j, j < ls.length → W.cell? ⟨b, o + j, none⟩ = some (.string ⟨(ls.getD j []).toArray⟩) := by
  obtain ⟨g', t, cs, fuel, p, h1, h2, h3, h4⟩ := laid_at h hm
  obtain rfl : g = g' := Option.some.inj (hg.symm.trans h1)
  obtain rfl : t = 36 := (Option.some.inj (hty.symm.trans h2)).symm
  rcases open_strings Tryd.underlying36 Tryd.underlying9 hcs h4 with ⟨_, hx⟩ | ⟨a, len, cap, ss, hcs2, _, hl, hm2, hz, hx, hcell, _⟩
  · cases hx
  · have hc0 := World.var?_cell hg h3 0
    have hcs3 : cs[0]? = some (.slice (some a) len cap) := by
      rw [← Array.getElem?_toList, hcs2]; rfl
    rw [hcs3] at hc0
    simp only [Prod.mk.injEq, DataW.slice.injEq] at hx
    obtain ⟨⟨e1, e2⟩, _⟩ := hx
    have hss : (ss.take len).map (fun s => s.data.toList) = ls := by
      have h5 : ∀ (zs : List ByteArray) (ys : List (List UInt8)), ys.map (fun x => (DataW.lit (.string x) : DataW Unit)) = strs zs → zs.map (fun s => s.data.toList) = ys := by
        intro zs
        induction zs with
        | nil => intro ys hy; cases ys with | nil => rfl | cons _ _ => simp [strs] at hy
        | cons z zs ih =>
          intro ys hy
          cases ys with
          | nil => simp [strs] at hy
          | cons y ys =>
            simp only [strs, List.map_cons, List.cons.injEq, DataW.lit.injEq, Lit.string.injEq] at hy ⊢
            exact ⟨hy.1.symm, ih ys hy.2⟩
      exact h5 _ _ e1
    have hslen : ss.length = cap := by simpa using hz
    have hlen : len = ls.length := by
      rw [← hss, List.length_map, List.length_take, hslen]; omega
    have hpos : 0 < ss.length := by
      have : 0 < ls.length := List.length_pos_iff.2 hne
      omega
    obtain ⟨b, o, sp⟩ := a
    have hsp : sp = none := by
      have h6 := hcell 0 hpos
      unfold World.cell? at h6
      cases sp with
      | none => rfl
      | some k =>
        exfalso
        have hsome : ((⟨b, o, some k⟩ : Addr).add 0).spot.isSome = true := by unfold Addr.add; split <;> simp_all
        rw [hsome] at h6
        split at h6
        · simp at h6
        · cases h6
    subst hsp
    refine ⟨b, o, cap, by rw [hc0, hlen], fun j hj => ?_⟩
    have h6 := hcell j (by omega)
    have hadd : (⟨b, o, none⟩ : Addr).add j = ⟨b, o + j, none⟩ := by unfold Addr.add; split <;> simp_all
    rw [hadd] at h6
    rw [h6]
    have h7 : (ls.getD j []) = (ss.getD j ByteArray.empty).data.toList := by
      have hj2 : j < ss.length := by omega
      rw [← hss, List.getD_eq_getElem?_getD, List.getElem?_map, List.getElem?_take, if_pos (by omega), List.getElem?_eq_getElem hj2, List.getD_eq_getElem?_getD, List.getElem?_eq_getElem hj2]
      rfl
    rw [h7]

theorem iface_at {W : World} {l : List (String × DataW Unit)} (h : laidMet Tryd.prog l W) {n : String} {g : Nat} {nm : String} {d : DataW Unit} {ti : TypeId} {ms : Array (String × TypeId)}
    (hm : (n, DataW.iface nm d) ∈ l) (hg : Tryd.prog.globalNamed n = some g) (hty : (Tryd.prog.globals[g]?).map (·.type) = some ti) (hi : Tryd.prog.underlying ti = some (.interface ms)) :
    ∃ te pe, W.cell? ⟨g, 0, none⟩ = some (.iface te pe) := by
  obtain ⟨g', t, cs, fuel, p, h1, h2, h3, h4⟩ := laid_at h hm
  obtain rfl : g = g' := Option.some.inj (hg.symm.trans h1)
  obtain rfl : t = ti := (Option.some.inj (hty.symm.trans h2)).symm
  obtain ⟨_, u, v, hcs2, _⟩ := iface_of_trod hi h4
  have hc0 := World.var?_cell hg h3 0
  have hcs3 : cs[0]? = some (.iface u v) := by
    rw [← Array.getElem?_toList, hcs2]; rfl
  exact ⟨u, v, by rw [hc0, hcs3]⟩

theorem lexEnv_of {W : World} (h : laidMetH Tryd.prog Rows.lexerScansRow.laid W) : LexEnv W := by
  have hl : laidMet Tryd.prog Rows.lexerScansRow.laid W := h
  have hk := strings_at hl (g := 0) Lex.keywords (by decide) (List.mem_of_getElem? (i := 6) rfl) (by kernel_rfl) (by kernel_rfl) (by kernel_rfl)
  have hs := strings_at hl (g := 1) Lex.symbols (by decide) (List.mem_of_getElem? (i := 7) rfl) (by kernel_rfl) (by kernel_rfl) (by kernel_rfl)
  exact ⟨hk, hs, iface_at hl (g := 4) (List.mem_of_getElem? (i := 4) rfl) (by kernel_rfl) (by kernel_rfl) Tryd.underlying63⟩
end Go.Proofs.YthbipapihdppmaaDoor
