/-
  From what the rows list of the package-level variables to what the walks of chapter 38 ask of memory.
-/
import Derived.Test.YtlgfickhkejdjaaGreatDoorMSyExpr
import Derived.Lib.LaidTab
import Derived.Test.YtlgfickhkejdjaaGreatDoorMTrA
import Derived.Test.YtlgfickhkejdjaaGreatDoorCards
import Derived.ProofKit
import Derived.OpenShut
import Derived.SliceStrings
import Derived.LaidLaws
namespace Go.Proofs.YtlgfickhkejdjaaGreatDoor
open Go.RowKit Go.ChangeShapes Go.WideShapes

theorem laidVars_at {P : Program} {W : World} : ∀ {l : List (String × DataW Unit)} {ps : List MemPlace}, DataW.LaidVars P W l ps → ∀ {n : String} {d : DataW Unit}, (n, d) ∈ l →
    ∃ g t cs fuel p, P.globalNamed n = some g ∧ (P.globals[g]?).map (·.type) = some t ∧ W.var? P n = some cs ∧ DataW.trod (fun _ => ()) P W 0 (fun _ => true) false fuel t cs.toList = some (d, p)
  | [], _, _, _, _, hm => by simp at hm
  | (n', d') :: r, ps, h, n, d, hm => by
    obtain ⟨g, t, cs, fuel, p, q, h1, h2, h3, h4, h5, _⟩ := h
    rcases List.mem_cons.1 hm with e | hm
    · cases e
      exact ⟨g, t, cs, fuel, p, h1, h2, h3, h4⟩
    · exact laidVars_at h5 hm

theorem laid_at {P : Program} {W : World} {l : List (String × DataW Unit)} (h : laidMet P l W) {n : String} {d : DataW Unit} (hm : (n, d) ∈ l) :
    ∃ g t cs fuel p, P.globalNamed n = some g ∧ (P.globals[g]?).map (·.type) = some t ∧ W.var? P n = some cs ∧ DataW.trod (fun _ => ()) P W 0 (fun _ => true) false fuel t cs.toList = some (d, p) := by
  obtain ⟨ps, h1, _⟩ := h
  exact laidVars_at h1 hm

/-- a slice of strings that is listed: its cells -/
theorem strings_at {W : World} {l : List (String × DataW Unit)} (h : laidMet Tryz.prog l W) {n : String} {g : Nat} (ls : List (List UInt8)) (hne : ls ≠ [])
    (hm : (n, DataW.slice (ls.map fun x => .lit (.string x)) []) ∈ l) (hg : Tryz.prog.globalNamed n = some g) (hty : (Tryz.prog.globals[g]?).map (·.type) = some 47) (hcs : Tryz.prog.cellsOf 9 = 1) :
    ∃ b o c, W.cell? ⟨g, 0, none⟩ = some (.slice (some ⟨b, o, none⟩) ls.length c) ∧ ∀ j, j < ls.length → W.cell? ⟨b, o + j, none⟩ = some (.string ⟨(ls.getD j []).toArray⟩) := by
  obtain ⟨g', t, cs, fuel, p, h1, h2, h3, h4⟩ := laid_at h hm
  obtain rfl : g = g' := Option.some.inj (hg.symm.trans h1)
  obtain rfl : t = 47 := (Option.some.inj (hty.symm.trans h2)).symm
  rcases open_strings Tryz.underlying47 Tryz.underlying9 hcs h4 with ⟨_, hx⟩ | ⟨a, len, cap, ss, hcs2, _, hl, hm2, hz, hx, hcell, _⟩
  · cases hx
  · have hc0 := World.var?_cell hg h3 0
    have hcs3 : cs[0]? = some (.slice (some a) len cap) := by
      rw [← Array.getElem?_toList, hcs2]; rfl
    rw [hcs3] at hc0
    simp only [Prod.mk.injEq, DataW.slice.injEq] at hx
    obtain ⟨⟨e1, e2⟩, _⟩ := hx
    have hss : (ss.take len).map (fun s => s.data.toList) = ls := by
      have h5 : ∀ (zs : List ByteArray) (ys : List (List UInt8)), ys.map (fun x => (DataW.lit (.string x) : DataW Unit)) = strs zs → zs.map (fun s => s.data.toList) = ys := by
        intro zs
        induction zs with
        | nil => intro ys hy; cases ys with | nil => rfl | cons _ _ => simp [strs] at hy
        | cons z zs ih =>
          intro ys hy
          cases ys with
          | nil => simp [strs] at hy
          | cons y ys =>
            simp only [strs, List.map_cons, List.cons.injEq, DataW.lit.injEq, Lit.string.injEq] at hy ⊢
            exact ⟨hy.1.symm, ih ys hy.2⟩
      exact h5 _ _ e1
    have hslen : ss.length = cap := by simpa using hz
    have hlen : len = ls.length := by
      rw [← hss, List.length_map, List.length_take, hslen]; omega
    have hpos : 0 < ss.length := by
      have : 0 < ls.length := List.length_pos_iff.2 hne
      omega
    obtain ⟨b, o, sp⟩ := a
    have hsp : sp = none := by
      have h6 := hcell 0 hpos
      unfold World.cell? at h6
      cases sp with
      | none => rfl
      | some k =>
        exfalso
        have hsome : ((⟨b, o, some k⟩ : Addr).add 0).spot.isSome = true := by unfold Addr.add; split <;> simp_all
        rw [hsome] at h6
        split at h6
        · simp at h6
        · cases h6
    subst hsp
    refine ⟨b, o, cap, by rw [hc0, hlen], fun j hj => ?_⟩
    have h6 := hcell j (by omega)
    have hadd : (⟨b, o, none⟩ : Addr).add j = ⟨b, o + j, none⟩ := by unfold Addr.add; split <;> simp_all
    rw [hadd] at h6
    rw [h6]
    have h7 : (ls.getD j []) = (ss.getD j ByteArray.empty).data.toList := by
      have hj2 : j < ss.length := by omega
      rw [← hss, List.getD_eq_getElem?_getD, List.getElem?_map, List.getElem?_take, if_pos (by omega), List.getElem?_eq_getElem hj2, List.getD_eq_getElem?_getD, List.getElem?_eq_getElem hj2]
      rfl
    rw [h7]

theorem iface_at {W : World} {l : List (String × DataW Unit)} (h : laidMet Tryz.prog l W) {n : String} {g : Nat} {nm : String} {d : DataW Unit} {ti : TypeId} {ms : Array (String × TypeId)}
    (hm : (n, DataW.iface nm d) ∈ l) (hg : Tryz.prog.globalNamed n = some g) (hty : (Tryz.prog.globals[g]?).map (·.type) = some ti) (hi : Tryz.prog.underlying ti = some (.interface ms)) :
    ∃ te pe, W.cell? ⟨g, 0, none⟩ = some (.iface te pe) := by
  obtain ⟨g', t, cs, fuel, p, h1, h2, h3, h4⟩ := laid_at h hm
  obtain rfl : g = g' := Option.some.inj (hg.symm.trans h1)
  obtain rfl : t = ti := (Option.some.inj (hty.symm.trans h2)).symm
  obtain ⟨_, u, v, hcs2, _⟩ := iface_of_trod hi h4
  have hc0 := World.var?_cell hg h3 0
  have hcs3 : cs[0]? = some (.iface u v) := by
    rw [← Array.getElem?_toList, hcs2]; rfl
  exact ⟨u, v, by rw [hc0, hcs3]⟩

section
variable {H : Type} {enc : TypeId × Value → H} {P : Program} {w : World} {base : Nat} {spare : Nat → Bool} {held : Bool}
/-- an array of one-cell elements: element for element -/
theorem arr_at {t e : TypeId} {n c fuel : Nat} {cs : List Value} {ds : List (DataW H)} {p : List MemPlace} (ht : P.underlying t = some (.array n e)) (hce : P.cellsOf e = c) (h : DataW.trod enc P w base spare held fuel t cs = some (.agg ds, p)) {i : Nat} {d : DataW H} (hd : ds[i]? = some d) :
    ∃ m q, DataW.trod enc P w base spare held m e ((cs.drop (i * c)).take c) = some (d, q) := by
  obtain ⟨xs, m, _, hx, _, hl, hf⟩ := DataW.trod_array ht h
  simp only [Prod.mk.injEq, DataW.agg.injEq] at hx
  obtain ⟨rfl, _⟩ := hx
  rw [List.getElem?_map] at hd
  obtain ⟨y, hy, rfl⟩ := Option.map_eq_some_iff.1 hd
  have hi : i < n := by have := (List.getElem?_eq_some_iff.1 hy).1; omega
  have h1 := hf i hi
  rw [hce, hy] at h1
  exact ⟨m, y.2, h1⟩
theorem struct_at {t : TypeId} {fs : Array Field} {fuel : Nat} {cs : List Value} {ds : List (DataW H)} {p : List MemPlace} (ht : P.underlying t = some (.struct fs)) (hone : Go.Deep.oneCellFields P fs = true) (hC : P.cellsOf t = fs.size)
    (h : DataW.trod enc P w base spare held fuel t cs = some (.agg ds, p)) {j : Nat} {f : Field} {d : DataW H} (hf0 : fs[j]? = some f) (hd : ds[j]? = some d) : ∃ v m q, cs[j]? = some v ∧ DataW.trod enc P w base spare held m f.type [v] = some (d, q) := by
  obtain ⟨xs, n, _, hx, hl, hxl, hf⟩ := DataW.trod_struct ht h
  simp only [Prod.mk.injEq, DataW.agg.injEq] at hx
  obtain ⟨rfl, _⟩ := hx
  rw [List.getElem?_map] at hd
  obtain ⟨y, hy, rfl⟩ := Option.map_eq_some_iff.1 hd
  obtain ⟨ho, hk⟩ := Go.Deep.hone_of hone j f hf0
  have hjl : j < fs.size := (Array.getElem?_eq_some_iff.1 hf0).1
  have h1 := hf j f hf0
  have hcl : j < cs.length := by rw [hl, hC]; exact hjl
  rw [ho, hk, Go.Deep.take1_drop cs j undef hcl, hy] at h1
  exact ⟨cs.getD j undef, n, y.2, by simp [List.getD, List.getElem?_eq_getElem hcl], h1⟩
end
/-- an array variable of one-cell elements -/
theorem var_at {W : World} {l : List (String × DataW Unit)} (h : laidMet Tryz.prog l W) {nm : String} {ds : List (DataW Unit)} {g : Nat} {t e : TypeId} {n c : Nat} (hm : (nm, DataW.agg ds) ∈ l) (hg : Tryz.prog.globalNamed nm = some g) (hty : (Tryz.prog.globals[g]?).map (·.type) = some t) (ht : Tryz.prog.underlying t = some (.array n e)) (hce : Tryz.prog.cellsOf e = c) {i : Nat} {d : DataW Unit} (hd : ds[i]? = some d) :
    ∃ (cs : Array Value) (m : Nat) (q : List MemPlace), (∀ j, W.cell? ⟨g, j, none⟩ = cs[j]?) ∧ DataW.trod (fun _ => ()) Tryz.prog W 0 (fun _ => true) false m e ((cs.toList.drop (i * c)).take c) = some (d, q) := by
  obtain ⟨g', t', cs, fuel, p, h1, h2, h3, h4⟩ := laid_at h hm
  obtain rfl : g = g' := Option.some.inj (hg.symm.trans h1)
  obtain rfl : t' = t := (Option.some.inj (hty.symm.trans h2)).symm
  obtain ⟨m, q, h5⟩ := arr_at ht hce h4 hd
  exact ⟨cs, m, q, fun j => World.var?_cell hg h3 j, h5⟩
theorem take_one {cs : Array Value} {i : Nat} {v : Value} (h : (cs.toList.drop (i * 1)).take 1 = [v]) : cs[i]? = some v := by
  have := congrArg (·[0]?) h
  rw [Nat.mul_one] at this
  simpa [List.getElem?_take, List.getElem?_drop] using this
noncomputable def formFs : Array Field := match Tryz.prog.underlying 108 with | some (.struct fs) => fs | _ => #[]
theorem formSt : Tryz.prog.underlying 108 = some (.struct formFs) := by kernel_rfl
theorem formOne : Go.Deep.oneCellFields Tryz.prog formFs = true := by kernel_rfl
theorem formCellsOf : Tryz.prog.cellsOf 108 = 5 := by kernel_rfl
theorem formTs : formFs.toList.map (·.type) = [3, 3, 4, 4, 4] := by kernel_rfl
def formD : Nat → List (DataW Unit)
  | 0 => [.lit (.int .i64 1), .lit (.int .i64 1), .lit (.bool true), .lit (.bool false), .lit (.bool false)]
  | 1 => [.lit (.int .i64 1), .lit (.int .i64 1), .lit (.bool true), .lit (.bool false), .lit (.bool false)]
  | 2 => [.lit (.int .i64 2), .lit (.int .i64 2), .lit (.bool true), .lit (.bool false), .lit (.bool false)]
  | 3 => [.lit (.int .i64 1), .lit (.int .i64 1), .lit (.bool false), .lit (.bool true), .lit (.bool true)]
  | 4 => [.lit (.int .i64 1), .lit (.int .i64 1), .lit (.bool false), .lit (.bool true), .lit (.bool false)]
  | 5 => [.lit (.int .i64 1), .lit (.int .i64 4611686018427387904), .lit (.bool true), .lit (.bool false), .lit (.bool false)]
  | 6 => [.lit (.int .i64 1), .lit (.int .i64 1), .lit (.bool false), .lit (.bool false), .lit (.bool false)]
  | 7 => [.lit (.int .i64 2), .lit (.int .i64 2), .lit (.bool false), .lit (.bool false), .lit (.bool false)]
  | 8 => [.lit (.int .i64 2), .lit (.int .i64 2), .lit (.bool true), .lit (.bool false), .lit (.bool false)]
  | 9 => [.lit (.int .i64 0), .lit (.int .i64 0), .lit (.bool false), .lit (.bool false), .lit (.bool false)]
  | _ => []
def formsD : List (DataW Unit) := [.agg [.lit (.int .i64 1), .lit (.int .i64 1), .lit (.bool true), .lit (.bool false), .lit (.bool false)], .agg [.lit (.int .i64 1), .lit (.int .i64 1), .lit (.bool true), .lit (.bool false), .lit (.bool false)], .agg [.lit (.int .i64 2), .lit (.int .i64 2), .lit (.bool true), .lit (.bool false), .lit (.bool false)], .agg [.lit (.int .i64 1), .lit (.int .i64 1), .lit (.bool false), .lit (.bool true), .lit (.bool true)], .agg [.lit (.int .i64 1), .lit (.int .i64 1), .lit (.bool false), .lit (.bool true), .lit (.bool false)], .agg [.lit (.int .i64 1), .lit (.int .i64 4611686018427387904), .lit (.bool true), .lit (.bool false), .lit (.bool false)], .agg [.lit (.int .i64 1), .lit (.int .i64 1), .lit (.bool false), .lit (.bool false), .lit (.bool false)], .agg [.lit (.int .i64 2), .lit (.int .i64 2), .lit (.bool false), .lit (.bool false), .lit (.bool false)], .agg [.lit (.int .i64 2), .lit (.int .i64 2), .lit (.bool true), .lit (.bool false), .lit (.bool false)], .agg [.lit (.int .i64 0), .lit (.int .i64 0), .lit (.bool false), .lit (.bool false), .lit (.bool false)]]
theorem forms_at {W : World} (h : laidMetH Tryz.prog Rows.syntaxExprsRow.laid W) (j : Nat) (u : Value) (hu : formCells[j]? = some u) : W.cell? ⟨0, j, none⟩ = some u := by
  have hl : laidMet Tryz.prog Rows.syntaxExprsRow.laid W := h
  have hj : j < 50 := (List.getElem?_eq_some_iff.1 hu).1
  have hd : ∀ i, i < 10 → formsD[i]? = some (.agg (formD i)) := by
    intro i hi
    match i, hi with
    | 0, _ => rfl
    | 1, _ => rfl
    | 2, _ => rfl
    | 3, _ => rfl
    | 4, _ => rfl
    | 5, _ => rfl
    | 6, _ => rfl
    | 7, _ => rfl
    | 8, _ => rfl
    | 9, _ => rfl
  have hfs : formFs.size = 5 := by
    have := congrArg List.length formTs
    simpa using this
  obtain ⟨cs, m, q, hc, ht⟩ := var_at hl (g := 0) (t := 109) (e := 108) (n := 10) (c := 5) (ds := formsD) (List.mem_of_getElem? (i := 9) rfl) (by kernel_rfl) (by kernel_rfl) Tryz.underlying109 formCellsOf (hd (j / 5) (by omega))
  have key : ∀ (a b : Nat) (f : Field) (d : DataW Unit), j = a * 5 + b → b < 5 → formFs[b]? = some f → (formD a)[b]? = some d → j / 5 = a → ∃ v m q, cs[j]? = some v ∧ DataW.trod (fun _ => ()) Tryz.prog W 0 (fun _ => true) false m f.type [v] = some (d, q) := by
    intro a b f d hab hb hf hdd ha
    rw [ha] at ht
    obtain ⟨v, m, q, h1, h2⟩ := struct_at formSt formOne (by rw [formCellsOf, hfs]) ht hf hdd
    refine ⟨v, m, q, ?_, h2⟩
    rw [List.getElem?_take_of_lt hb, List.getElem?_drop, ← hab] at h1
    rw [← Array.getElem?_toList]
    exact h1
  obtain ⟨f0, g0, e0⟩ := field_of formTs (j := 0) rfl
  obtain ⟨f1, g1, e1⟩ := field_of formTs (j := 1) rfl
  obtain ⟨f2, g2, e2⟩ := field_of formTs (j := 2) rfl
  obtain ⟨f3, g3, e3⟩ := field_of formTs (j := 3) rfl
  obtain ⟨f4, g4, e4⟩ := field_of formTs (j := 4) rfl
  have geti : ∀ (a b : Nat) (f : Field) (z : Int), j = a * 5 + b → b < 5 → formFs[b]? = some f → f.type = 3 → (formD a)[b]? = some (.lit (.int .i64 z)) → j / 5 = a → W.cell? ⟨0, j, none⟩ = some (.int .i64 z) := by
    intro a b f z hab hb hf hft hdd ha
    obtain ⟨v, m, q, h1, h2⟩ := key a b f _ hab hb hf hdd ha
    rw [hft] at h2
    obtain ⟨y, hy, hz, _⟩ := DataW.trod_int Tryz.underlying3 h2
    simp only [Prod.mk.injEq, DataW.lit.injEq, Lit.int.injEq, true_and] at hz
    simp only [List.cons.injEq, and_true] at hy
    rw [hc j, h1, hy, hz.1]
  have getb : ∀ (a b : Nat) (f : Field) (z : Bool), j = a * 5 + b → b < 5 → formFs[b]? = some f → f.type = 4 → (formD a)[b]? = some (.lit (.bool z)) → j / 5 = a → W.cell? ⟨0, j, none⟩ = some (.bool z) := by
    intro a b f z hab hb hf hft hdd ha
    obtain ⟨v, m, q, h1, h2⟩ := key a b f _ hab hb hf hdd ha
    rw [hft] at h2
    obtain ⟨y, hy, hz⟩ := DataW.trod_bool Tryz.underlying4 h2
    simp only [Prod.mk.injEq, DataW.lit.injEq, Lit.bool.injEq] at hz
    simp only [List.cons.injEq, and_true] at hy
    rw [hc j, h1, hy, hz.1]
  clear ht hd key
  match j, hj with
  | 0, _ => cases hu; exact geti 0 0 f0 _ rfl (by decide) g0 e0 rfl rfl
  | 1, _ => cases hu; exact geti 0 1 f1 _ rfl (by decide) g1 e1 rfl rfl
  | 2, _ => cases hu; exact getb 0 2 f2 _ rfl (by decide) g2 e2 rfl rfl
  | 3, _ => cases hu; exact getb 0 3 f3 _ rfl (by decide) g3 e3 rfl rfl
  | 4, _ => cases hu; exact getb 0 4 f4 _ rfl (by decide) g4 e4 rfl rfl
  | 5, _ => cases hu; exact geti 1 0 f0 _ rfl (by decide) g0 e0 rfl rfl
  | 6, _ => cases hu; exact geti 1 1 f1 _ rfl (by decide) g1 e1 rfl rfl
  | 7, _ => cases hu; exact getb 1 2 f2 _ rfl (by decide) g2 e2 rfl rfl
  | 8, _ => cases hu; exact getb 1 3 f3 _ rfl (by decide) g3 e3 rfl rfl
  | 9, _ => cases hu; exact getb 1 4 f4 _ rfl (by decide) g4 e4 rfl rfl
  | 10, _ => cases hu; exact geti 2 0 f0 _ rfl (by decide) g0 e0 rfl rfl
  | 11, _ => cases hu; exact geti 2 1 f1 _ rfl (by decide) g1 e1 rfl rfl
  | 12, _ => cases hu; exact getb 2 2 f2 _ rfl (by decide) g2 e2 rfl rfl
  | 13, _ => cases hu; exact getb 2 3 f3 _ rfl (by decide) g3 e3 rfl rfl
  | 14, _ => cases hu; exact getb 2 4 f4 _ rfl (by decide) g4 e4 rfl rfl
  | 15, _ => cases hu; exact geti 3 0 f0 _ rfl (by decide) g0 e0 rfl rfl
  | 16, _ => cases hu; exact geti 3 1 f1 _ rfl (by decide) g1 e1 rfl rfl
  | 17, _ => cases hu; exact getb 3 2 f2 _ rfl (by decide) g2 e2 rfl rfl
  | 18, _ => cases hu; exact getb 3 3 f3 _ rfl (by decide) g3 e3 rfl rfl
  | 19, _ => cases hu; exact getb 3 4 f4 _ rfl (by decide) g4 e4 rfl rfl
  | 20, _ => cases hu; exact geti 4 0 f0 _ rfl (by decide) g0 e0 rfl rfl
  | 21, _ => cases hu; exact geti 4 1 f1 _ rfl (by decide) g1 e1 rfl rfl
  | 22, _ => cases hu; exact getb 4 2 f2 _ rfl (by decide) g2 e2 rfl rfl
  | 23, _ => cases hu; exact getb 4 3 f3 _ rfl (by decide) g3 e3 rfl rfl
  | 24, _ => cases hu; exact getb 4 4 f4 _ rfl (by decide) g4 e4 rfl rfl
  | 25, _ => cases hu; exact geti 5 0 f0 _ rfl (by decide) g0 e0 rfl rfl
  | 26, _ => cases hu; exact geti 5 1 f1 _ rfl (by decide) g1 e1 rfl rfl
  | 27, _ => cases hu; exact getb 5 2 f2 _ rfl (by decide) g2 e2 rfl rfl
  | 28, _ => cases hu; exact getb 5 3 f3 _ rfl (by decide) g3 e3 rfl rfl
  | 29, _ => cases hu; exact getb 5 4 f4 _ rfl (by decide) g4 e4 rfl rfl
  | 30, _ => cases hu; exact geti 6 0 f0 _ rfl (by decide) g0 e0 rfl rfl
  | 31, _ => cases hu; exact geti 6 1 f1 _ rfl (by decide) g1 e1 rfl rfl
  | 32, _ => cases hu; exact getb 6 2 f2 _ rfl (by decide) g2 e2 rfl rfl
  | 33, _ => cases hu; exact getb 6 3 f3 _ rfl (by decide) g3 e3 rfl rfl
  | 34, _ => cases hu; exact getb 6 4 f4 _ rfl (by decide) g4 e4 rfl rfl
  | 35, _ => cases hu; exact geti 7 0 f0 _ rfl (by decide) g0 e0 rfl rfl
  | 36, _ => cases hu; exact geti 7 1 f1 _ rfl (by decide) g1 e1 rfl rfl
  | 37, _ => cases hu; exact getb 7 2 f2 _ rfl (by decide) g2 e2 rfl rfl
  | 38, _ => cases hu; exact getb 7 3 f3 _ rfl (by decide) g3 e3 rfl rfl
  | 39, _ => cases hu; exact getb 7 4 f4 _ rfl (by decide) g4 e4 rfl rfl
  | 40, _ => cases hu; exact geti 8 0 f0 _ rfl (by decide) g0 e0 rfl rfl
  | 41, _ => cases hu; exact geti 8 1 f1 _ rfl (by decide) g1 e1 rfl rfl
  | 42, _ => cases hu; exact getb 8 2 f2 _ rfl (by decide) g2 e2 rfl rfl
  | 43, _ => cases hu; exact getb 8 3 f3 _ rfl (by decide) g3 e3 rfl rfl
  | 44, _ => cases hu; exact getb 8 4 f4 _ rfl (by decide) g4 e4 rfl rfl
  | 45, _ => cases hu; exact geti 9 0 f0 _ rfl (by decide) g0 e0 rfl rfl
  | 46, _ => cases hu; exact geti 9 1 f1 _ rfl (by decide) g1 e1 rfl rfl
  | 47, _ => cases hu; exact getb 9 2 f2 _ rfl (by decide) g2 e2 rfl rfl
  | 48, _ => cases hu; exact getb 9 3 f3 _ rfl (by decide) g3 e3 rfl rfl
  | 49, _ => cases hu; exact getb 9 4 f4 _ rfl (by decide) g4 e4 rfl rfl
def opsD : List (DataW Unit) := [.agg [.lit (.string [43]), .lit (.int .i64 5)], .agg [.lit (.string [45]), .lit (.int .i64 5)], .agg [.lit (.string [42]), .lit (.int .i64 6)], .agg [.lit (.string [47]), .lit (.int .i64 6)], .agg [.lit (.string [37]), .lit (.int .i64 6)], .agg [.lit (.string [61, 61]), .lit (.int .i64 4)], .agg [.lit (.string [33, 61]), .lit (.int .i64 4)], .agg [.lit (.string [60]), .lit (.int .i64 4)], .agg [.lit (.string [60, 61]), .lit (.int .i64 4)], .agg [.lit (.string [62]), .lit (.int .i64 4)], .agg [.lit (.string [62, 61]), .lit (.int .i64 4)], .agg [.lit (.string [97, 110, 100]), .lit (.int .i64 2)], .agg [.lit (.string [111, 114]), .lit (.int .i64 1)]]
noncomputable def opFs : Array Field := match Tryz.prog.underlying 133 with | some (.struct fs) => fs | _ => #[]
theorem opSt : Tryz.prog.underlying 133 = some (.struct opFs) := by kernel_rfl
theorem opOne : Go.Deep.oneCellFields Tryz.prog opFs = true := by kernel_rfl
theorem opCellsOf : Tryz.prog.cellsOf 133 = 2 := by kernel_rfl
theorem opTs : opFs.toList.map (·.type) = [9, 3] := by kernel_rfl
theorem ops_at {W : World} (h : laidMetH Tryz.prog Rows.syntaxExprsRow.laid W) (o : Nat) (ho : o ≤ 12) : W.cell? ⟨1, o * 2, none⟩ = some (.string ⟨(Sy.sym o).toArray⟩) ∧ W.cell? ⟨1, o * 2 + 1, none⟩ = some (.int .i64 (Sy.opLevel o : Nat)) := by
  have hl : laidMet Tryz.prog Rows.syntaxExprsRow.laid W := h
  have hd : ∀ i : Nat, i < 13 → opsD[i]? = some (.agg [.lit (.string (Sy.sym i)), .lit (.int .i64 (Sy.opLevel i : Nat))]) := by
    intro i hi
    match i, hi with
    | 0, _ => rfl
    | 1, _ => rfl
    | 2, _ => rfl
    | 3, _ => rfl
    | 4, _ => rfl
    | 5, _ => rfl
    | 6, _ => rfl
    | 7, _ => rfl
    | 8, _ => rfl
    | 9, _ => rfl
    | 10, _ => rfl
    | 11, _ => rfl
    | 12, _ => rfl
  have hfs : opFs.size = 2 := by
    have := congrArg List.length opTs
    simpa using this
  obtain ⟨cs, m, q, hc, ht⟩ := var_at hl (g := 1) (t := 134) (e := 133) (n := 13) (c := 2) (ds := opsD) (List.mem_of_getElem? (i := 8) rfl) (by kernel_rfl) (by kernel_rfl) Tryz.underlying134 opCellsOf (hd o (by omega))
  obtain ⟨f0, g0, e0⟩ := field_of opTs (j := 0) rfl
  obtain ⟨f1, g1, e1⟩ := field_of opTs (j := 1) rfl
  obtain ⟨v0, m0, q0, h0, t0⟩ := struct_at opSt opOne (by rw [opCellsOf, hfs]) ht g0 (d := .lit (.string (Sy.sym o))) rfl
  obtain ⟨v1, m1, q1, h1, t1⟩ := struct_at opSt opOne (by rw [opCellsOf, hfs]) ht g1 (d := .lit (.int .i64 (Sy.opLevel o : Nat))) rfl
  rw [List.getElem?_take_of_lt (by omega), List.getElem?_drop] at h0 h1
  rw [e0] at t0
  rw [e1] at t1
  obtain ⟨y, hy, hz, _⟩ := DataW.trod_string Tryz.underlying9 t0
  simp only [Prod.mk.injEq, DataW.lit.injEq, Lit.string.injEq] at hz
  simp only [List.cons.injEq, and_true] at hy
  obtain ⟨y1, hy1, hz1, _⟩ := DataW.trod_int Tryz.underlying3 t1
  simp only [Prod.mk.injEq, DataW.lit.injEq, Lit.int.injEq, true_and] at hz1
  simp only [List.cons.injEq, and_true] at hy1
  refine ⟨?_, ?_⟩
  · rw [hc (o * 2), ← Array.getElem?_toList, show o * 2 = o * 2 + 0 from rfl, h0, hy, show y = ⟨(Sy.sym o).toArray⟩ from bytes_eq hz.1.symm]
  · rw [hc (o * 2 + 1), ← Array.getElem?_toList, h1, hy1, hz1.1]
theorem pow10_at {W : World} (h : laidMetH Tryz.prog Rows.syntaxExprsRow.laid W) : Lib.TabIs Tryz.prog W "internal/strconv.uint64pow10" .u64 Lib.pow10Tab := by
  have hl : laidMet Tryz.prog Rows.syntaxExprsRow.laid W := h
  obtain ⟨g, t, cs, fuel, p, h1, h2, h3, h4⟩ := laid_at (n := "internal/strconv.uint64pow10") (d := Lib.tabData .u64 Lib.pow10Tab) hl (List.mem_of_getElem? (i := 2) rfl)
  obtain rfl : 6 = g := Option.some.inj ((show Tryz.prog.globalNamed "internal/strconv.uint64pow10" = some 6 by kernel_rfl).symm.trans h1)
  obtain rfl : t = 188 := (Option.some.inj ((show (Tryz.prog.globals[6]?).map (·.type) = some 188 by kernel_rfl).symm.trans h2)).symm
  unfold Lib.TabIs
  rw [h3, ← Lib.cells_of_tab Tryz.underlying188 Tryz.underlying143 (by kernel_rfl) (by kernel_rfl) h4]
theorem syEnv_of {W : World} (h : laidMetH Tryz.prog Rows.syntaxExprsRow.laid W) : SyEnv W := by
  have hl : laidMet Tryz.prog Rows.syntaxExprsRow.laid W := h
  have hk := strings_at hl (g := 7) Lex.keywords (by decide) (List.mem_of_getElem? (i := 6) rfl) (by kernel_rfl) (by kernel_rfl) (by kernel_rfl)
  have hs := strings_at hl (g := 5) Lex.symbols (by decide) (List.mem_of_getElem? (i := 7) rfl) (by kernel_rfl) (by kernel_rfl) (by kernel_rfl)
  exact ⟨⟨⟨hk, hs, iface_at hl (g := 11) (List.mem_of_getElem? (i := 4) rfl) (by kernel_rfl) (by kernel_rfl) Tryz.underlying136⟩, forms_at h⟩, ⟨ops_at h, pow10_at h⟩⟩
end Go.Proofs.YtlgfickhkejdjaaGreatDoor
