/-
  CheckerRenames, walked.
-/
import Derived.Test.YtdafdbjdnebnfaaGreatDoorCkLawReverses
import Derived.Test.YtdafdbjdnebnfaaGreatDoorCkLawFaults
import Derived.Test.YtdafdbjdnebnfaaGreatDoorCkRenP
import Derived.Test.YtdafdbjdnebnfaaGreatDoorCkRenSt
import Derived.Test.YtdafdbjdnebnfaaGreatDoorCkUses
import Derived.Deep.DeepCutAuto
namespace Go.Proofs.YtdafdbjdnebnfaaGreatDoor
open Go.RowKit Go.Maps

def pCells (s : ByteArray) : List Value := [.string s]
theorem pCells_len (s : ByteArray) : (pCells s).length = 1 := rfl
/-- the renamed method under way, since world w -/
structure RnSt (w : World) (BR : Nat) (nm : ByteArray) (qv : Value) (ps : List ByteArray) (vb : Value) (body : List Tr.S) (W : World) : Prop where
  br : W.heap[BR]? = some (.cells #[.string nm, qv, vb] 41 (0, 0))
  own : W.ownsRow w.heap.size 9 1 qv ps.length (flatV pCells ps)
  body : SlSf W (fun b => b ≠ BR ∧ some b ≠ qv.ownBlock) vb body
  below : Below w.heap.size w W
  hR : w.heap.size ≤ BR
section
variable {w : World} {BR : Nat} {nm : ByteArray} {qv vb : Value} {ps : List ByteArray} {body : List Tr.S} {W W' : World}
theorem RnSt.keep (h : RnSt w BR nm qv ps vb body W) (hb : Below W.heap.size W W') : RnSt w BR nm qv ps vb body W' :=
  ⟨(hb.block BR (lt_of_block h.br)).trans h.br, own_below h.own hb, h.body.next hb, below_next h.below hb, h.hR⟩
theorem RnSt.free (h : RnSt w BR nm qv ps vb body W) (q : Nat) : W.frozen? ⟨BR, q, none⟩ = false := by have := h.br; simp [World.frozen?, this]
theorem RnSt.ne (h : RnSt w BR nm qv ps vb body W) : some BR ≠ qv.ownBlock := fun e => by
  obtain ⟨_, cur, hc⟩ := own_ge h.own e.symm
  have := h.br.symm.trans hc
  simp only [Option.some.injEq, Obj.cells.injEq] at this
  exact absurd this.2.1 (by decide)
theorem RnSt.br2 (h : RnSt w BR nm qv ps vb body W) (hg : W.grownBy W' qv.ownBlock) : W'.heap[BR]? = some (.cells #[.string nm, qv, vb] 41 (0, 0)) := (hg.block BR (lt_of_block h.br) h.ne).trans h.br
theorem RnSt.app (h : RnSt w BR nm qv ps vb body W) {s : ByteArray} {v' : Value} (ho : W'.ownsRow w.heap.size 9 1 v' (ps ++ [s]).length (flatV pCells (ps ++ [s]))) (hg : W.grownBy W' qv.ownBlock) (hf : v'.ownBlock = qv.ownBlock ∨ v'.ownBlock = some W.heap.size) : RnSt w BR nm v' (ps ++ [s]) vb body (W'.setCell ⟨BR, 1, none⟩ v') := by
  have hq := h.br2 hg
  have hgs := grown_setCell W' BR 1 v'
  have hne : some BR ≠ v'.ownBlock := fun e => by
    obtain ⟨_, cur, hc⟩ := own_ge ho e.symm
    have := hq.symm.trans hc
    simp only [Option.some.injEq, Obj.cells.injEq] at this
    exact absurd this.2.1 (by decide)
  refine ⟨?_, ho.kept hgs ?_, ?_, ?_, h.hR⟩
  · have := heap_set (j := 1) v' hq
    simpa using this
  · exact .inr (fun e => hne e.symm)
  · refine h.body.move (fun b hb hlt => ?_) (fun b hb hlt => ⟨hb.1, ?_⟩)
    · rw [set_other W' BR 1 b v' hb.1]; exact hg.block b hlt hb.2
    · rcases hf with e | e
      · rw [e]; exact hb.2
      · rw [e]; intro e2; cases e2; omega
  · have h1 := h.below.grown hg h.below.size (fun q hq => (own_ge h.own hq).1)
    exact h1.grown hgs h1.size (fun q hq => by cases hq; exact h.hR)
end
theorem set3_blk {W : World} {b : Nat} {a0 a1 a2 : Value} {T : TypeId} (h : W.heap[b]? = some (.cells #[a0, a1, a2] T (0, 0))) (u0 u1 u2 : Value) :
    (((W.setCell ⟨b, 0, none⟩ u0).setCell ⟨b, 1, none⟩ u1).setCell ⟨b, 2, none⟩ u2).heap[b]? = some (.cells #[u0, u1, u2] T (0, 0)) ∧
    (∀ k, k ≠ b → (((W.setCell ⟨b, 0, none⟩ u0).setCell ⟨b, 1, none⟩ u1).setCell ⟨b, 2, none⟩ u2).heap[k]? = W.heap[k]?) ∧
    (((W.setCell ⟨b, 0, none⟩ u0).setCell ⟨b, 1, none⟩ u1).setCell ⟨b, 2, none⟩ u2).heap.size = W.heap.size ∧
    W.grownBy (((W.setCell ⟨b, 0, none⟩ u0).setCell ⟨b, 1, none⟩ u1).setCell ⟨b, 2, none⟩ u2) (some b) := by
  have h0 := heap_set (j := 0) u0 h
  have h1 := heap_set (j := 1) u1 h0
  have h2 := heap_set (j := 2) u2 h1
  refine ⟨by simpa using h2, fun k hk => ?_, by simp, ?_⟩
  · rw [set_other _ _ _ _ _ hk, set_other _ _ _ _ _ hk, set_other _ _ _ _ _ hk]
  · exact grown_trans (grown_trans (grown_setCell W b 0 u0) (grown_setCell _ b 1 u1)) (grown_setCell _ b 2 u2)
theorem RnSt.made {w W w' : World} {BR : Nat} {nm : ByteArray} {vb : Value} {body : List Tr.S} {a0 a1 a2 : Value} {F : Nat → Prop} (hw : Below w.heap.size w W) (hR : w.heap.size ≤ BR) (hb : W.heap[BR]? = some (.cells #[a0, a1, a2] 41 (0, 0)))
    (hs : SlSf W F vb body) (hF : ∀ b, F b → b < W.heap.size → b ≠ BR) (e : w' = ((W.setCell ⟨BR, 0, none⟩ (.string nm)).setCell ⟨BR, 1, none⟩ (.slice none 0 0)).setCell ⟨BR, 2, none⟩ vb) : RnSt w BR nm (.slice none 0 0) [] vb body w' := by
  obtain ⟨s1, s2, s3, s4⟩ := set3_blk hb (.string nm) (.slice none 0 0) vb
  rw [← e] at s1 s2 s3 s4
  refine ⟨s1, World.ownsRow_nil _ _ _ _, hs.move (fun b hb hlt => s2 b (hF b hb hlt)) (fun b hb hlt => ⟨hF b hb hlt, by simp [Value.ownBlock]⟩), hw.grown s4 hw.size (fun q hq => by cases hq; exact hR), hR⟩
theorem rn_keep {q q' : Addr} {a a' : Value} {w0 W W' : World} (h : W.cell? q = some a ∧ W.cell? q' = some a' ∧ Hid (Below w0.heap.size w0 W)) (hb : Below W.heap.size W W') : W'.cell? q = some a ∧ W'.cell? q' = some a' ∧ Hid (Below w0.heap.size w0 W') :=
  ⟨(grown_of_below (r := none) hb).cell h.1 (by simp), (grown_of_below (r := none) hb).cell h.2.1 (by simp), Lib.hid (below_next h.2.2.out hb)⟩
theorem rn_below {p p' : Prop} {w0 W : World} (h : p ∧ p' ∧ Hid (Below w0.heap.size w0 W)) : Below w0.heap.size w0 W := h.2.2.out
theorem methodInfo : (Tryz.prog.info? 41).map (fun i => (i.zero, i.size, i.bytes)) = some (some (.agg #[.string ⟨#[]⟩, .slice none 0 0, .slice none 0 0]), 3, 64) := by kernel_rfl
/-- the new class under way -/
structure OtSt (w0 : World) (BO : Nat) (a0 a1 a2 : Value) (qv : Value) (tr : List MT) (W : World) : Prop where
  bo : W.heap[BO]? = some (.cells #[a0, a1, a2, qv] 36 (0, 0))
  own : W.ownsRow (w0.heap.size + 1) 41 3 qv tr.length (flatV mCells tr)
  below : Below w0.heap.size w0 W
theorem OtSt.made {w0 w9 W : World} {BO : Nat} {a0 a1 a2 v : Value} {tr : List MT} (hs : w9.heap.size = w0.heap.size + 1) (h0 : Below w0.heap.size w0 w9) (hO : w0.heap.size = BO) (h9 : w9.heap[BO]? = some (.cells #[a0, a1, a2, .slice none 0 0] 36 (0, 0))) (hb : Below w9.heap.size w9 W)
    (ho : W.ownsRow w9.heap.size 41 3 v tr.length (flatV mCells tr)) : OtSt w0 BO a0 a1 a2 v tr (W.setCell ⟨BO, 3, none⟩ v) := by
  have hq := (hb.block BO (lt_of_block h9)).trans h9
  have hgs := grown_setCell W BO 3 v
  rw [hs] at ho
  refine ⟨?_, ho.kept hgs ?_, ?_⟩
  · have := heap_set (j := 3) v hq
    simpa using this
  · right
    intro e
    have := (own_ge ho e).1
    omega
  · have h1 := below_next h0 hb
    exact h1.grown hgs h1.size (fun q hq => by cases hq; omega)
/-- the new program under way -/
structure QtSt (w0 : World) (BQ : Nat) (qv : Value) (tr : List CT) (W : World) : Prop where
  bq : W.heap[BQ]? = some (.cells #[qv] 24 (0, 0))
  own : W.ownsRow (w0.heap.size + 1) 36 4 qv tr.length (flatV cCells tr)
  below : Below w0.heap.size w0 W
theorem QtSt.made {w0 w9 W : World} {BQ : Nat} {v : Value} {tr : List CT} (hs : w9.heap.size = w0.heap.size + 1) (h0 : Below w0.heap.size w0 w9) (hO : w0.heap.size = BQ) (h9 : w9.heap[BQ]? = some (.cells #[.slice none 0 0] 24 (0, 0))) (hb : Below w9.heap.size w9 W)
    (ho : W.ownsRow w9.heap.size 36 4 v tr.length (flatV cCells tr)) : QtSt w0 BQ v tr (W.setCell ⟨BQ, 0, none⟩ v) := by
  have hq := (hb.block BQ (lt_of_block h9)).trans h9
  have hgs := grown_setCell W BQ 0 v
  rw [hs] at ho
  refine ⟨?_, ho.kept hgs ?_, ?_⟩
  · have := heap_set (j := 0) v hq
    simpa using this
  · right
    intro e
    have := (own_ge ho e).1
    omega
  · have h1 := below_next h0 hb
    exact h1.grown hgs h1.size (fun q hq => by cases hq; omega)
theorem SrcAt.drop2 {α : Type} {f : α → List Value} {k : Nat} (hf : ∀ a, (f a).length = k) {w : World} {b o n cm : Nat} {l : List α} (h : ∀ j u, (flatV f l)[j]? = some u → w.cell? ⟨b, o + j, none⟩ = some u) (i : Nat) (hi : i ≤ n) (hl : l.length = n) (hn : n ≤ cm) :
    SrcAt w f (.slice (if cm = i then some ⟨b, o, none⟩ else some ⟨b, o + i * k, none⟩) (n - i) (cm - i)) (l.drop i) := by
  by_cases e : cm = i
  · left
    refine ⟨List.drop_eq_nil_of_le (by omega), some ⟨b, o, none⟩, cm - i, ?_⟩
    rw [if_pos e, show n - i = 0 by omega]
  · rw [if_neg e]
    exact SrcAt.drop hf h i (by omega) (by omega) rfl
theorem slStr_ownP {w : World} {base : Nat} {v : Value} {l : List ByteArray} (h : w.ownsRow base 9 1 v l.length (flatV pCells l)) (hl : l.length ≤ maxLen) (hx : ∀ s ∈ l, s.size ≤ maxLen) : SlStr w v l := by
  rcases own_cells pCells_len h with ⟨rfl, rfl⟩ | ⟨g, cap, rfl, hg, hn, hm, hc⟩
  · exact ⟨_, _, rfl, Nat.zero_le _, fun h => absurd rfl h, fun j s hj => by simp at hj⟩
  · refine ⟨_, _, rfl, hl, fun _ => ⟨hn, hm⟩, fun j s hj => ⟨hx s (List.mem_of_getElem? hj), g, 0, rfl, hg, ?_⟩⟩
    have := hc j s hj 0 _ rfl
    rw [Nat.mul_one, Nat.add_zero] at this
    rw [Nat.zero_add]
    exact this
theorem off_of_has {l : List ByteArray} {s : ByteArray} (h : Ck.hasS l s = false) : Ck.Off s l := by
  intro v hv e
  unfold Ck.hasS at h
  rw [List.any_eq_false] at h
  exact h v hv (by simp [e])
theorem u8_bounds {n : Int} (h : (Lit.int .u8 n).wf = true) : 0 ≤ n ∧ n ≤ 255 := by
  simp [Lit.wf, IntKind.min, IntKind.max, IntKind.signed, IntKind.bits] at h; omega

set_option maxRecDepth 100000 in
set_option maxHeartbeats 40000000 in
theorem law_renames (c8 m8 : Int) (hc8 : 0 ≤ c8 ∧ c8 ≤ 255) (hm8 : 0 ≤ m8 ∧ m8 ≤ 255) (nf : ByteArray) (hfr : nf.size ≤ maxLen) (nt : ByteArray) (hto : nt.size ≤ maxLen) (v : Value) (cs : List Tr.C) (w : World) (hE : CkEnv w) (h : SlC w v cs) :
    Calls Tryz.prog 8 #[.agg #[v], .int .u8 c8, .int .u8 m8, .string nf, .string nt] w fun e w' => e = .returned (.bool true) ∧ Below w.heap.size w w' := by
  obtain ⟨i0, hi0, hz0, hz1, hz2⟩ := info_parts classInfo
  have HE := Lib.hid hE
  have HS := Lib.hid h
  have HFR := Lib.hid hfr
  have HTO := Lib.hid hto
  obtain ⟨C8, rfl⟩ : ∃ q : Nat, c8 = q := ⟨c8.toNat, by omega⟩
  obtain ⟨M8, rfl⟩ : ∃ q : Nat, m8 = q := ⟨m8.toNat, by omega⟩
  have hw8 : wrap64 (C8 : Int) = (C8 : Int) := by unfold wrap64; omega
  have hwm : wrap64 (M8 : Int) = (M8 : Int) := by unfold wrap64; omega
  obtain ⟨rows, hrows, hread, hsrc⟩ := h.rows
  obtain ⟨pv, cpv, rfl⟩ := h.form
  obtain ⟨CN, hCN⟩ : ∃ q, cs.length = q := ⟨_, rfl⟩
  rw [hCN] at HS hsrc ⊢
  have hRN : rows.length = CN := by rw [← hCN, ← hrows, List.length_map]
  have hbx := below_box w (.cells #[.slice pv CN cpv] 24)
  have hbx2 := below_box (w.alloc (.cells #[.slice pv CN cpv] 24)) (.cells #[.slice pv CN cpv] 24)
  have hB2 := Lib.hid (below_next hbx hbx2)
  have hg := box_cell (w.alloc (.cells #[.slice pv CN cpv] 24)) #[.slice pv CN cpv] 24 0 _ rfl
  have c0 := cell_keep' hbx2 (box_cell w #[.slice pv CN cpv] 24 0 _ rfl)
  simp only [World.size_alloc] at hg
  have KF := Lib.hid (lawFew_any _ cs _ _ 1 hg (HS.out.keep hB2.out))
  have KA : Hid (∀ W, Below w.heap.size w W → Calls Tryz.prog 14 #[] W fun e w' => e = .returned (.bool true) ∧ Below W.heap.size W w') := fun W hb => awake40_any W (HE.out.keep hb)
  have KV : Hid (∀ W, Below w.heap.size w W → Calls Tryz.prog 23 #[.agg #[.slice pv CN cpv]] W fun r w' => r = .returned (.bool (Tr.validP cs)) ∧ Below W.heap.size W w') := fun W hb => validR_any _ cs W (HS.out.keep hb)
  have KX : Hid (∀ W s, s.size ≤ maxLen → Calls Tryz.prog 24 #[.string s] W fun e w' => e = .returned (.bool (Tr.varB s)) ∧ Below W.heap.size W w') := fun W s hs => variable_any s W hs
  have C0 := Lib.hid c0
  have hlt0 := cell_lt' c0
  have HSRC := Lib.hid hsrc
  have HREAD := Lib.hid hread
  have HROWS := Lib.hid hrows
  have HRN := Lib.hid hRN
  have HCN := Lib.hid hCN
  obtain ⟨BAD, hbad⟩ : ∃ q, (!(Tr.fewP cs 300 && Tr.validP cs && Tr.varB nf && Tr.varB nt && !decide (CN = 0))) = q := ⟨_, rfl⟩
  have HBAD := Lib.hid hbad
  clear hE h hCN hbx hbx2 hg c0 hsrc hread hrows hRN hfr hto hc8 hm8 hbad
  go_enter Tryz.func8, Tryz.ntmps8
  go_upto_region 1 with fail
  go_cut [44] (fun s44 wx => s44 = .bool BAD ∧ Hid (Below w.heap.size w wx) ∧ Hid (wx.cell? ⟨w.heap.size, 0, none⟩ = some (.slice pv CN cpv)))
  case first =>
    cases hq0 : Tr.fewP cs 300
    · have HQ0 := Lib.hid hq0
      clear hq0
      go_wp2_with fail
      have k0 := KF.out
      rw [HQ0.out] at k0
      refine k0.mono ?_
      rintro e w3 ⟨rfl, hb3⟩
      have hB3 := Lib.hid (below_next hB2.out hb3)
      have C1 := Lib.hid (cell_keep' hb3 C0.out)
      have c1 := C1.out
      clear hb3 k0
      go_wp2_with fail
      go_meet
      exact ⟨by rw [← HBAD.out, HQ0.out]; simp, hB3, C1⟩
    · have HQ0 := Lib.hid hq0
      clear hq0
      cases hq1 : Tr.validP cs
      · have HQ1 := Lib.hid hq1
        clear hq1
        go_wp2_with fail
        have k0 := KF.out
        rw [HQ0.out] at k0
        refine k0.mono ?_
        rintro e w3 ⟨rfl, hb3⟩
        have hB3 := Lib.hid (below_next hB2.out hb3)
        have C1 := Lib.hid (cell_keep' hb3 C0.out)
        have c1 := C1.out
        clear hb3 k0
        go_wp2_with fail
        have k1 := KV.out _ hB3.out
        rw [HQ1.out] at k1
        refine k1.mono ?_
        rintro e w4 ⟨rfl, hb4⟩
        have hB4 := Lib.hid (below_next hB3.out hb4)
        have C2 := Lib.hid (cell_keep' hb4 C1.out)
        have c2 := C2.out
        clear hb4 k1
        go_wp2_with fail
        go_meet
        exact ⟨by rw [← HBAD.out, HQ0.out, HQ1.out]; simp, hB4, C2⟩
      · have HQ1 := Lib.hid hq1
        clear hq1
        cases hq2 : Tr.varB nf
        · have HQ2 := Lib.hid hq2
          clear hq2
          go_wp2_with fail
          have k0 := KF.out
          rw [HQ0.out] at k0
          refine k0.mono ?_
          rintro e w3 ⟨rfl, hb3⟩
          have hB3 := Lib.hid (below_next hB2.out hb3)
          have C1 := Lib.hid (cell_keep' hb3 C0.out)
          have c1 := C1.out
          clear hb3 k0
          go_wp2_with fail
          have k1 := KV.out _ hB3.out
          rw [HQ1.out] at k1
          refine k1.mono ?_
          rintro e w4 ⟨rfl, hb4⟩
          have hB4 := Lib.hid (below_next hB3.out hb4)
          have C2 := Lib.hid (cell_keep' hb4 C1.out)
          have c2 := C2.out
          clear hb4 k1
          go_wp2_with fail
          have k2 := fun W => KX.out W nf HFR.out
          simp only [HQ2.out] at k2
          refine (k2 _).mono ?_
          rintro e w5 ⟨rfl, hb5⟩
          have hB5 := Lib.hid (below_next hB4.out hb5)
          have C3 := Lib.hid (cell_keep' hb5 C2.out)
          have c3 := C3.out
          clear hb5 k2
          go_wp2_with fail
          go_meet
          exact ⟨by rw [← HBAD.out, HQ0.out, HQ1.out, HQ2.out]; simp, hB5, C3⟩
        · have HQ2 := Lib.hid hq2
          clear hq2
          cases hq3 : Tr.varB nt
          · have HQ3 := Lib.hid hq3
            clear hq3
            go_wp2_with fail
            have k0 := KF.out
            rw [HQ0.out] at k0
            refine k0.mono ?_
            rintro e w3 ⟨rfl, hb3⟩
            have hB3 := Lib.hid (below_next hB2.out hb3)
            have C1 := Lib.hid (cell_keep' hb3 C0.out)
            have c1 := C1.out
            clear hb3 k0
            go_wp2_with fail
            have k1 := KV.out _ hB3.out
            rw [HQ1.out] at k1
            refine k1.mono ?_
            rintro e w4 ⟨rfl, hb4⟩
            have hB4 := Lib.hid (below_next hB3.out hb4)
            have C2 := Lib.hid (cell_keep' hb4 C1.out)
            have c2 := C2.out
            clear hb4 k1
            go_wp2_with fail
            have k2 := fun W => KX.out W nf HFR.out
            simp only [HQ2.out] at k2
            refine (k2 _).mono ?_
            rintro e w5 ⟨rfl, hb5⟩
            have hB5 := Lib.hid (below_next hB4.out hb5)
            have C3 := Lib.hid (cell_keep' hb5 C2.out)
            have c3 := C3.out
            clear hb5 k2
            go_wp2_with fail
            have k3 := fun W => KX.out W nt HTO.out
            simp only [HQ3.out] at k3
            refine (k3 _).mono ?_
            rintro e w6 ⟨rfl, hb6⟩
            have hB6 := Lib.hid (below_next hB5.out hb6)
            have C4 := Lib.hid (cell_keep' hb6 C3.out)
            have c4 := C4.out
            clear hb6 k3
            go_wp2_with fail
            go_meet
            exact ⟨by rw [← HBAD.out, HQ0.out, HQ1.out, HQ2.out, HQ3.out]; simp, hB6, C4⟩
          · have HQ3 := Lib.hid hq3
            clear hq3
            by_cases hcn : CN = 0
            · subst hcn
              go_wp2_with fail
              have k0 := KF.out
              rw [HQ0.out] at k0
              refine k0.mono ?_
              rintro e w3 ⟨rfl, hb3⟩
              have hB3 := Lib.hid (below_next hB2.out hb3)
              have C1 := Lib.hid (cell_keep' hb3 C0.out)
              have c1 := C1.out
              clear hb3 k0
              go_wp2_with fail
              have k1 := KV.out _ hB3.out
              rw [HQ1.out] at k1
              refine k1.mono ?_
              rintro e w4 ⟨rfl, hb4⟩
              have hB4 := Lib.hid (below_next hB3.out hb4)
              have C2 := Lib.hid (cell_keep' hb4 C1.out)
              have c2 := C2.out
              clear hb4 k1
              go_wp2_with fail
              have k2 := fun W => KX.out W nf HFR.out
              simp only [HQ2.out] at k2
              refine (k2 _).mono ?_
              rintro e w5 ⟨rfl, hb5⟩
              have hB5 := Lib.hid (below_next hB4.out hb5)
              have C3 := Lib.hid (cell_keep' hb5 C2.out)
              have c3 := C3.out
              clear hb5 k2
              go_wp2_with fail
              have k3 := fun W => KX.out W nt HTO.out
              simp only [HQ3.out] at k3
              refine (k3 _).mono ?_
              rintro e w6 ⟨rfl, hb6⟩
              have hB6 := Lib.hid (below_next hB5.out hb6)
              have C4 := Lib.hid (cell_keep' hb6 C3.out)
              have c4 := C4.out
              clear hb6 k3
              go_wp2_with fail
              go_meet
              exact ⟨by rw [← HBAD.out, HQ0.out, HQ1.out, HQ2.out, HQ3.out]; simp, hB6, C4⟩
            · have hcnb : ((CN : Int) == 0) = false := beq_eq_false_iff_ne.2 (by omega)
              have HCNN := Lib.hid hcn
              clear hcn
              go_wp2_with fail
              have k0 := KF.out
              rw [HQ0.out] at k0
              refine k0.mono ?_
              rintro e w3 ⟨rfl, hb3⟩
              have hB3 := Lib.hid (below_next hB2.out hb3)
              have C1 := Lib.hid (cell_keep' hb3 C0.out)
              have c1 := C1.out
              clear hb3 k0
              go_wp2_with fail
              have k1 := KV.out _ hB3.out
              rw [HQ1.out] at k1
              refine k1.mono ?_
              rintro e w4 ⟨rfl, hb4⟩
              have hB4 := Lib.hid (below_next hB3.out hb4)
              have C2 := Lib.hid (cell_keep' hb4 C1.out)
              have c2 := C2.out
              clear hb4 k1
              go_wp2_with fail
              have k2 := fun W => KX.out W nf HFR.out
              simp only [HQ2.out] at k2
              refine (k2 _).mono ?_
              rintro e w5 ⟨rfl, hb5⟩
              have hB5 := Lib.hid (below_next hB4.out hb5)
              have C3 := Lib.hid (cell_keep' hb5 C2.out)
              have c3 := C3.out
              clear hb5 k2
              go_wp2_with fail
              have k3 := fun W => KX.out W nt HTO.out
              simp only [HQ3.out] at k3
              refine (k3 _).mono ?_
              rintro e w6 ⟨rfl, hb6⟩
              have hB6 := Lib.hid (below_next hB5.out hb6)
              have C4 := Lib.hid (cell_keep' hb6 C3.out)
              have c4 := C4.out
              clear hb6 k3
              go_wp2_with fail
              go_meet
              exact ⟨by rw [← HBAD.out, HQ0.out, HQ1.out, HQ2.out, HQ3.out]; simp [HCNN.out], hB6, C4⟩
  case rest =>
    obtain ⟨rfl, hB3, C1⟩ := hcut
    have c1 := C1.out
    cases BAD
    · have hok : Tr.fewP cs 300 = true ∧ Tr.validP cs = true ∧ Tr.varB nf = true ∧ Tr.varB nt = true ∧ ¬ CN = 0 := by
        have h1 := HBAD.out
        simp only [Bool.not_eq_false', Bool.and_eq_true, Bool.not_eq_true', decide_eq_false_iff_not] at h1
        exact ⟨h1.1.1.1.1, h1.1.1.1.2, h1.1.1.2, h1.1.2, h1.2⟩
      have HOK := Lib.hid hok
      obtain ⟨_, _, _, _, hcn0⟩ := hok
      obtain ⟨w3, hw3⟩ : ∃ q, q = wc := ⟨_, rfl⟩
      rw [← hw3] at hB3 C1 c1 ⊢
      clear hw3
      obtain ⟨J, hJ⟩ : ∃ q, C8 % CN = q := ⟨_, rfl⟩
      have hJ2 : (C8 : Int).tmod (CN : Int) = (J : Int) := by rw [← hJ]; rfl
      have hJl : J < CN := by rw [← hJ]; exact Nat.mod_lt _ (by omega)
      obtain ⟨x, hx⟩ : ∃ x, rows[J]? = some x := ⟨_, List.getElem?_eq_getElem (by rw [HRN.out]; exact hJl)⟩
      have hrd := HREAD.out x (List.mem_of_getElem? hx)
      have hcx : cs[J]? = some x.1 := by rw [← HROWS.out, List.getElem?_map, hx]; rfl
      obtain ⟨c, a1, a2⟩ := x
      obtain ⟨hnm, hsf, hsm⟩ : ReadC w c a1 a2 := hrd
      obtain ⟨mrows, hmrows, hmread, hmsrc⟩ := hsm.rows
      have hsm2 := hsm
      have hsf2 := hsf
      obtain ⟨pf, cf, rfl⟩ := hsf.form
      obtain ⟨pm, cm, rfl⟩ := hsm.form
      obtain ⟨FN, hFN⟩ : ∃ q, c.fields.length = q := ⟨_, rfl⟩
      obtain ⟨MN, hMN⟩ : ∃ q, c.methods.length = q := ⟨_, rfl⟩
      rw [hFN] at hx hsf2
      rw [hMN] at hx hmsrc hsm2
      have hMR : mrows.length = MN := by rw [← hMN, ← hmrows, List.length_map]
      have hcells : ∃ b oo, pv = some ⟨b, oo, none⟩ ∧ w.cell? ⟨b, oo + J * 4, none⟩ = some (.string c.name) ∧ w.cell? ⟨b, oo + J * 4 + 1, none⟩ = some (.bool c.actor) ∧ w.cell? ⟨b, oo + J * 4 + 2, none⟩ = some (.slice pf FN cf) ∧ w.cell? ⟨b, oo + J * 4 + 3, none⟩ = some (.slice pm MN cm) ∧ ∀ j u, (flatV cCells rows)[j]? = some u → w.cell? ⟨b, oo + j, none⟩ = some u := by
        rcases HSRC.out with ⟨hr0, _⟩ | ⟨b, o, k, e, hc⟩
        · rw [hr0] at hx; simp at hx
        · injection e with e1 e2 e3
          refine ⟨b, o, e1, ?_⟩
          have key : ∀ i u, i < 4 → (cCells (c, .slice pf FN cf, .slice pm MN cm))[i]? = some u → w.cell? ⟨b, o + (J * 4 + i), none⟩ = some u := fun i u hi hu => hc _ _ ((flatV_get cCells 4 cCells_len rows J _ i hi hx).trans hu)
          exact ⟨key 0 _ (by omega) rfl, key 1 _ (by omega) rfl, key 2 _ (by omega) rfl, key 3 _ (by omega) rfl, hc⟩
      obtain ⟨b, oo, rfl, y0, y1, y2, y3, hflat⟩ := hcells
      have HFLAT := Lib.hid hflat
      have y0 := cell_keep' hB3.out y0
      have y1 := cell_keep' hB3.out y1
      have y2 := cell_keep' hB3.out y2
      have y3 := cell_keep' hB3.out y3
      have b3 : (J : Int) < (CN : Int) := by omega
      have b0 : (0 : Int) ≤ (J : Int) := by omega
      have HX := Lib.hid hx
      have HCX := Lib.hid hcx
      have HJL := Lib.hid hJl
      have HNM := Lib.hid hnm
      have HSF := Lib.hid hsf2
      have HSM := Lib.hid hsm2
      have HMROWS := Lib.hid hmrows
      have HMREAD := Lib.hid hmread
      have HMSRC := Lib.hid hmsrc
      have HMR := Lib.hid hMR
      have HFN := Lib.hid hFN
      have HMN := Lib.hid hMN
      have hl1 := cell_lt' y0
      have hl2 := cell_lt' c1
      have hb4 := below_box w3 (.cells #[.string c.name, .bool c.actor, .slice pf FN cf, .slice pm MN cm] 36)
      obtain ⟨BC, hBC⟩ : ∃ q, w3.heap.size = q := ⟨_, rfl⟩
      obtain ⟨w4, hw4⟩ : ∃ q, q = w3.alloc (.cells #[.string c.name, .bool c.actor, .slice pf FN cf, .slice pm MN cm] 36) := ⟨_, rfl⟩
      have hc4 := (MapKept.heap_alloc w3 (.cells #[.string c.name, .bool c.actor, .slice pf FN cf, .slice pm MN cm] 36)).1
      rw [← hw4, hBC] at hc4
      rw [← hw4] at hb4
      have HW4 := Lib.hid hw4
      have HBC := Lib.hid hBC
      have HB4 := Lib.hid (below_next hB3.out hb4)
      have C2 := Lib.hid (cell_keep' hb4 C1.out)
      have HC4 : Hid (w4.heap[BC]? = some (.cells #[.string c.name, .bool c.actor, .slice pf FN cf, .slice pm MN cm] 36 (0, 0))) := hc4
      clear hx hcx hJ hnm hsf2 hsm2 hmrows hmread hmsrc hMR hFN hMN hsm hsf hflat hw4 hBC hb4 hc4 hJl
      go_upto_region 5 with fail
      rw [← HW4.out, HBC.out]
      clear y0 y1 y2 y3 c1 hl1 hl2 HW4
      have z3 := cell_of_blk HC4.out (j := 3) rfl
      by_cases hm0 : MN = 0
      · subst hm0
        go_wp2_with fail
        refine (KA.out _ HB4.out).mono ?_
        rintro e w9 ⟨rfl, hb9⟩
        go_wp2_with fail
        go_ret
        exact ⟨rfl, below_next HB4.out hb9⟩
      · have hm0b : ((MN : Int) == 0) = false := beq_eq_false_iff_ne.2 (by omega)
        obtain ⟨QK, hK⟩ : ∃ q, M8 % MN = q := ⟨_, rfl⟩
        have hK2 : (M8 : Int).tmod (MN : Int) = (QK : Int) := by rw [← hK]; rfl
        have hKl : QK < MN := by rw [← hK]; exact Nat.mod_lt _ (by omega)
        obtain ⟨x, hx⟩ : ∃ x, mrows[QK]? = some x := ⟨_, List.getElem?_eq_getElem (by rw [HMR.out]; exact hKl)⟩
        have hrd := HMREAD.out x (List.mem_of_getElem? hx)
        have hmx : c.methods[QK]? = some x.1 := by rw [← HMROWS.out, List.getElem?_map, hx]; rfl
        obtain ⟨m, d1, d2⟩ := x
        obtain ⟨hmn, hsp, hsb⟩ : ReadM w m d1 d2 := hrd
        have hsp2 := hsp
        have hsb2 := hsb
        obtain ⟨pp, cp, rfl, _⟩ := hsp
        obtain ⟨pb, cb, rfl, _⟩ := hsb.form
        obtain ⟨PN, hPN⟩ : ∃ q, m.params.length = q := ⟨_, rfl⟩
        obtain ⟨BN, hBN⟩ : ∃ q, m.body.length = q := ⟨_, rfl⟩
        rw [hPN] at hx hsp2
        rw [hBN] at hx hsb2
        have hcells : ∃ b oo, pm = some ⟨b, oo, none⟩ ∧ w.cell? ⟨b, oo + QK * 3, none⟩ = some (.string m.name) ∧ w.cell? ⟨b, oo + QK * 3 + 1, none⟩ = some (.slice pp PN cp) ∧ w.cell? ⟨b, oo + QK * 3 + 2, none⟩ = some (.slice pb BN cb) ∧ ∀ j u, (flatV mCells mrows)[j]? = some u → w.cell? ⟨b, oo + j, none⟩ = some u := by
          rcases HMSRC.out with ⟨hr0, _⟩ | ⟨b, o, k, e, hc⟩
          · rw [hr0] at hx; simp at hx
          · injection e with e1 e2 e3
            refine ⟨b, o, e1, ?_⟩
            have key : ∀ i u, i < 3 → (mCells (m, .slice pp PN cp, .slice pb BN cb))[i]? = some u → w.cell? ⟨b, o + (QK * 3 + i), none⟩ = some u := fun i u hi hu => hc _ _ ((flatV_get mCells 3 mCells_len mrows QK _ i hi hx).trans hu)
            exact ⟨key 0 _ (by omega) rfl, key 1 _ (by omega) rfl, key 2 _ (by omega) rfl, hc⟩
        obtain ⟨mb, mo, rfl, y0, y1, y2, hmflat⟩ := hcells
        have y0 := cell_keep' HB4.out y0
        have y1 := cell_keep' HB4.out y1
        have y2 := cell_keep' HB4.out y2
        have HMFLAT := Lib.hid hmflat
        have HMX := Lib.hid hmx
        have HMRX := Lib.hid hx
        have HKL := Lib.hid hKl
        have HMNM := Lib.hid hmn
        have HSP := Lib.hid hsp2
        have HSB := Lib.hid hsb2
        have HPN := Lib.hid hPN
        have HBN := Lib.hid hBN
        have e3 : (QK : Int) < (MN : Int) := by omega
        have e0 : (0 : Int) ≤ (QK : Int) := by omega
        have hl1 := cell_lt' y0
        have hl3 := cell_lt' z3
        have hb5 := below_box w4 (.cells #[.string m.name, .slice pp PN cp, .slice pb BN cb] 41)
        obtain ⟨BM, hBM⟩ : ∃ q, w4.heap.size = q := ⟨_, rfl⟩
        obtain ⟨w5, hw5⟩ : ∃ q, q = w4.alloc (.cells #[.string m.name, .slice pp PN cp, .slice pb BN cb] 41) := ⟨_, rfl⟩
        have hc5 := (MapKept.heap_alloc w4 (.cells #[.string m.name, .slice pp PN cp, .slice pb BN cb] 41)).1
        rw [← hw5, hBM] at hc5
        rw [← hw5] at hb5
        have HW5 := Lib.hid hw5
        have HBM := Lib.hid hBM
        have HB5 := Lib.hid (below_next HB4.out hb5)
        have C3 := Lib.hid (cell_keep' hb5 C2.out)
        have HM5 : Hid (w5.heap[BM]? = some (.cells #[.string m.name, .slice pp PN cp, .slice pb BN cb] 41 (0, 0))) := hc5
        have HC5 : Hid (w5.heap[BC]? = some (.cells #[.string c.name, .bool c.actor, .slice pf FN cf, .slice (some ⟨mb, mo, none⟩) MN cm] 36 (0, 0))) := (hb5.block _ (lt_of_block HC4.out)).trans HC4.out
        clear hx hmx hK hmn hsp2 hsb2 hPN hBN hmflat hw5 hBM hb5 hc5 hKl hsb
        go_upto_region 9 with fail
        rw [← HW5.out, HBM.out]
        clear y0 y1 y2 z3 hl1 hl3 HW5
        have z1 := cell_of_blk HM5.out (j := 1) rfl
        have z2 := cell_of_blk HM5.out (j := 2) rfl
        have KH := Lib.hid (hasR_any nt _ m.params w5 (HSP.out.keep HB5.out))
        have KU := Lib.hid (usesS_any nt _ m.body _ w5 (Nat.le_refl _) (HSB.out.keep HB5.out))
        obtain ⟨BAD2, hbad2⟩ : ∃ q, (Ck.hasS m.params nt || Ck.usesSs nt m.body) = q := ⟨_, rfl⟩
        have HBAD2 := Lib.hid hbad2
        clear hbad2
        go_cut [82] (fun s82 wx => s82 = .bool BAD2 ∧ Hid (Below w5.heap.size w5 wx))
        case first =>
          cases hq : Ck.hasS m.params nt
          · rw [hq] at KH
            have HQ := Lib.hid hq
            clear hq
            go_wp2_with fail
            refine KH.out.mono ?_
            rintro e w6 ⟨rfl, rfl⟩
            go_wp2_with fail
            refine KU.out.mono ?_
            rintro e w7 ⟨rfl, hb7⟩
            go_wp2_with fail
            go_meet
            exact ⟨by rw [← HBAD2.out, HQ.out, Bool.false_or], hb7⟩
          · rw [hq] at KH
            have HQ := Lib.hid hq
            clear hq
            go_wp2_with fail
            refine KH.out.mono ?_
            rintro e w6 ⟨rfl, rfl⟩
            go_wp2_with fail
            go_meet
            exact ⟨by rw [← HBAD2.out, HQ.out, Bool.true_or], Below.refl _ _⟩
        case rest =>
          obtain ⟨rfl, hB6⟩ := hcut
          clear z1 z2
          obtain ⟨w6, hw6⟩ : ∃ q, q = wc := ⟨_, rfl⟩
          rw [← hw6] at hB6 ⊢
          clear hw6
          have HB6 := Lib.hid (below_next HB5.out hB6.out)
          cases BAD2
          · have hno := HBAD2.out
            rw [Bool.or_eq_false_iff] at hno
            have HNO := Lib.hid hno
            clear hno
            have C4 := Lib.hid (cell_keep' hB6.out C3.out)
            have HM6 : Hid (w6.heap[BM]? = some (.cells #[.string m.name, .slice pp PN cp, .slice pb BN cb] 41 (0, 0))) := (hB6.out.block _ (lt_of_block HM5.out)).trans HM5.out
            have HC6 : Hid (w6.heap[BC]? = some (.cells #[.string c.name, .bool c.actor, .slice pf FN cf, .slice (some ⟨mb, mo, none⟩) MN cm] 36 (0, 0))) := (hB6.out.block _ (lt_of_block HC5.out)).trans HC5.out
            have hthin := thinP_of HOK.out.1 (by decide) c (List.mem_of_getElem? HCX.out) m (List.mem_of_getElem? HMX.out)
            have KREN : Hid (∀ W, Below w6.heap.size w6 W → Calls Tryz.prog 27 #[.slice pb BN cb, .string nf, .string nt] W (RenSPost nf nt m.body W)) := fun W hb => renS_any nf nt HTO.out _ m.body _ W (Nat.le_refl _) hthin.1 hthin.2 ((HSB.out.keep HB6.out).keep hb)
            have z0 := cell_of_blk HM6.out (j := 0) rfl
            have z2 := cell_of_blk HM6.out (j := 2) rfl
            obtain ⟨rb, hwr⟩ : ∃ q, Ck.renSs nf nt m.body = q := ⟨_, rfl⟩
            have HWR := Lib.hid hwr
            obtain ⟨WN, hWN⟩ : ∃ q, rb.length = q := ⟨_, rfl⟩
            clear hthin hwr HM5 HC5 KH KU
            go_upto_region 11 with fail
            go_cut [15] (fun s15 wx => ∃ (BR : Nat) (pvb : Option Addr) (cvb : Nat), s15 = .pointer (some ⟨BR, 0, none⟩) ∧ Hid (RnSt w6 BR m.name (.slice none 0 0) [] (.slice pvb WN cvb) rb wx))
            case first =>
              refine wp_region_held_drew (S := fun w' => w'.cell? ⟨BM, 0, none⟩ = some (.string m.name) ∧ w'.cell? ⟨BM, 2, none⟩ = some (.slice pb BN cb) ∧ Hid (Below w6.heap.size w6 w')) (by kernel_rfl) ?_ (fun hHeld => ?_)
              · exact ⟨z0, z2, Lib.hid ((Below.refl _ _).drew)⟩
              refine wpAnyH_take (i := 0) (oi := ⟨some 84, _, _, _, _, _⟩) (v := ?_) rfl (by kernel_rfl) (by kernel_rfl) (by kernel_rfl) (fun _ _ _ h => h) (Or.inl ⟨by rfl, ?_⟩) (by assumption) ?_
              rotate_left
              · (intro w hSw; (try dsimp only at hSw); go_simp; (try with_reducible rfl))
              try simp only [Act.put, List.setIfInBounds_toArray, List.set_cons_zero, List.set_cons_succ]
              refine wpAnyH_take (i := 1) (oi := ⟨some 85, _, _, _, _, _⟩) (v := ?_) rfl (by kernel_rfl) (by kernel_rfl) (by kernel_rfl) (fun _ _ _ h => h) (Or.inl ⟨by rfl, ?_⟩) (by assumption) ?_
              rotate_left
              · (intro w hSw; (try dsimp only at hSw); go_simp; (try with_reducible rfl))
              try simp only [Act.put, List.setIfInBounds_toArray, List.set_cons_zero, List.set_cons_succ]
              refine wpAnyH_take (i := 2) (oi := ⟨some 86, _, _, _, _, _⟩) (v := ?_) rfl (by kernel_rfl) (by kernel_rfl) (by kernel_rfl) (fun _ _ _ h => h) (Or.inl ⟨by rfl, ?_⟩) (by assumption) ?_
              rotate_left
              · (intro w hSw; (try dsimp only at hSw); go_simp; (try with_reducible rfl))
              try simp only [Act.put, List.setIfInBounds_toArray, List.set_cons_zero, List.set_cons_succ]
              refine wpAnyH_take (i := 3) (oi := ⟨some 87, _, _, _, _, _⟩) (v := ?_) rfl (by kernel_rfl) (by kernel_rfl) (by kernel_rfl) (fun _ _ _ h => h) (Or.inl ⟨by rfl, ?_⟩) (by assumption) ?_
              rotate_left
              · (intro w hSw; (try dsimp only at hSw); go_simp; (try with_reducible rfl))
              try simp only [Act.put, List.setIfInBounds_toArray, List.set_cons_zero, List.set_cons_succ]
              refine wpAnyH_take (i := 4) (oi := ⟨some 88, _, _, _, _, _⟩) (v := ?_) rfl (by kernel_rfl) (by kernel_rfl) (by kernel_rfl) (fun _ _ _ h => h) (Or.inl ⟨by rfl, ?_⟩) (by assumption) ?_
              rotate_left
              · (intro w hSw; (try dsimp only at hSw); go_simp; (try with_reducible rfl))
              try simp only [Act.put, List.setIfInBounds_toArray, List.set_cons_zero, List.set_cons_succ]
              refine wpAnyH_take (i := 5) (oi := ⟨some 89, _, _, _, _, _⟩) (v := ?_) rfl (by kernel_rfl) (by kernel_rfl) (by kernel_rfl) (fun _ _ _ h => h) (Or.inl ⟨by rfl, ?_⟩) (by assumption) ?_
              rotate_left
              · (intro w hSw; (try dsimp only at hSw); go_simp; (try with_reducible rfl))
              try simp only [Act.put, List.setIfInBounds_toArray, List.set_cons_zero, List.set_cons_succ]
              refine wpAnyH_ready (rs := [6, 8]) (by kernel_rfl) (by simp) ?_
              refine AllReadyH.cons (o := ⟨some 90, _, _, _, _, _⟩) rfl (fun K hK => ?_) (AllReadyH.cons (o := ⟨some 15, _, _, _, _, _⟩) rfl (fun K hK => ?_) AllReadyH.nil)
              · go_simp
                with_reducible refine (KREN.out _ (rn_below (by assumption))).mono ?_
                rintro e w7 ⟨vb, rfl, hs, hb⟩
                obtain ⟨pvb, cvb, rfl, _⟩ := hs.to.form
                rw [HWR.out] at hs
                rw [HWR.out, hWN]
                rw [hWN] at hs
                go_wp2_with fail
                refine hK.out _ _ ?_ (fun hHeld => ?_)
                · exact rn_keep (by assumption) hb
                clear hK K
                try simp only [Act.put, List.setIfInBounds_toArray, List.set_cons_zero, List.set_cons_succ]
                refine wpAnyH_take (i := 7) (oi := ⟨some 91, _, _, _, _, _⟩) (v := ?_) rfl (by kernel_rfl) (by kernel_rfl) (by kernel_rfl) (fun _ _ _ h => h) (Or.inl ⟨by rfl, ?_⟩) (by assumption) ?_
                rotate_left
                · (intro w hSw; (try dsimp only at hSw); go_simp; (try with_reducible rfl))
                try simp only [Act.put, List.setIfInBounds_toArray, List.set_cons_zero, List.set_cons_succ]
                refine wpAnyH_ready (rs := [8]) (by kernel_rfl) (by simp) ?_
                refine AllReadyH.cons (o := ⟨some 15, _, _, _, _, _⟩) rfl (fun K hK => ?_) AllReadyH.nil
                go_simp
                have HH7 := Lib.hid hHeld
                have hbz := below_box w7 (.cells #[.string ⟨#[]⟩, .slice none 0 0, .slice none 0 0] 41)
                refine hK.out _ _ ?_ (fun hHeld => ?_)
                · exact rn_keep hHeld hbz
                clear hK K
                try simp only [Act.put, List.setIfInBounds_toArray, List.set_cons_zero, List.set_cons_succ]
                refine wpAnyH_ready (rs := [9]) (by kernel_rfl) (by simp) ?_
                refine AllReadyH.cons (o := ⟨none, _, _, _, _, _⟩) rfl (fun K hK => ?_) AllReadyH.nil
                go_simp
                have hbm := below_box w7 (.cells #[.string m.name, .slice none 0 0, .slice pvb WN cvb] 41)
                refine hK.out _ _ ?_ (fun hHeld => ?_)
                · exact rn_keep HH7.out hbm
                clear hK K
                try simp only [Act.put, List.setIfInBounds_toArray, List.set_cons_zero, List.set_cons_succ]
                refine wpAnyH_done (by kernel_rfl) ?_ _
                clear hHeld
                go_wp2_with fail
                go_meet
                refine ⟨w7.heap.size, pvb, cvb, rfl, (MapKept.heap_alloc w7 _).1, World.ownsRow_nil _ _ _ _, hs.move (fun b _ hlt => hbm.block b hlt) (fun b _ hlt => ⟨by omega, by simp [Value.ownBlock]⟩), below_next (rn_below HH7.out) hbm, (rn_below HH7.out).size⟩
              · go_simp
                have hzz := (MapKept.heap_alloc w6 (.cells #[.string ⟨#[]⟩, .slice none 0 0, .slice none 0 0] 41)).1
                refine hK.out _ _ ?_ (fun hHeld => ?_)
                · exact rn_keep hHeld (below_box _ _)
                clear hK K
                try simp only [Act.put, List.setIfInBounds_toArray, List.set_cons_zero, List.set_cons_succ]
                refine wpAnyH_ready (rs := [6]) (by kernel_rfl) (by simp) ?_
                refine AllReadyH.cons (o := ⟨some 90, _, _, _, _, _⟩) rfl (fun K hK => ?_) AllReadyH.nil
                go_simp
                with_reducible refine (KREN.out _ (rn_below (by assumption))).mono ?_
                rintro e w7 ⟨vb, rfl, hs, hb⟩
                obtain ⟨pvb, cvb, rfl, _⟩ := hs.to.form
                rw [HWR.out] at hs
                rw [HWR.out, hWN]
                rw [hWN] at hs
                go_wp2_with fail
                have hzz2 := (hb.block _ (lt_of_block hzz)).trans hzz
                refine hK.out _ _ ?_ (fun hHeld => ?_)
                · exact rn_keep (by assumption) hb
                clear hK K
                try simp only [Act.put, List.setIfInBounds_toArray, List.set_cons_zero, List.set_cons_succ]
                refine wpAnyH_take (i := 7) (oi := ⟨some 91, _, _, _, _, _⟩) (v := ?_) rfl (by kernel_rfl) (by kernel_rfl) (by kernel_rfl) (fun _ _ _ h => h) (Or.inl ⟨by rfl, ?_⟩) (by assumption) ?_
                rotate_left
                · (intro w hSw; (try dsimp only at hSw); go_simp; (try with_reducible rfl))
                try simp only [Act.put, List.setIfInBounds_toArray, List.set_cons_zero, List.set_cons_succ]
                refine wpAnyH_ready (rs := [9]) (by kernel_rfl) (by simp) ?_
                refine AllReadyH.cons (o := ⟨none, _, _, _, _, _⟩) rfl (fun K hK => ?_) AllReadyH.nil
                have x0 := cell_of_blk hzz2 (j := 0) rfl
                have x1 := cell_of_blk hzz2 (j := 1) rfl
                have x2 := cell_of_blk hzz2 (j := 2) rfl
                have f0 : w7.frozen? ⟨w6.heap.size, 0, none⟩ = false := by simp [World.frozen?, hzz2]
                have f1 : w7.frozen? ⟨w6.heap.size, 1, none⟩ = false := by simp [World.frozen?, hzz2]
                have f2 : w7.frozen? ⟨w6.heap.size, 2, none⟩ = false := by simp [World.frozen?, hzz2]
                have HST : Hid (RnSt w6 w6.heap.size m.name (.slice none 0 0) [] (.slice pvb WN cvb) rb _) := RnSt.made (rn_below hHeld) (Nat.le_refl w6.heap.size) hzz2 hs (fun b hb _ e => by simp only [World.size_alloc, World.drew] at hb; omega) rfl
                clear hs hb hzz hzz2
                go_simp
                refine hK.out _ _ ?_ (fun hHeld => ?_)
                · exact ⟨cell_keep' HST.out.below z0, cell_keep' HST.out.below z2, HST.out.below⟩
                clear hK K
                try simp only [Act.put, List.setIfInBounds_toArray, List.set_cons_zero, List.set_cons_succ]
                refine wpAnyH_done (by kernel_rfl) ?_ _
                clear hHeld
                go_wp2_with fail
                go_meet
                exact ⟨w6.heap.size, pvb, cvb, rfl, HST⟩
            case rest =>
              obtain ⟨BR, pvb, cvb, rfl, HR0⟩ := hcut
              clear z0 z2 KREN
              obtain ⟨w7, hw7⟩ : ∃ q, q = wc := ⟨_, rfl⟩
              rw [← hw7] at HR0 ⊢
              clear hw7
              have z1 := cell_keep' HR0.out.below (cell_of_blk HM6.out (j := 1) rfl)
              obtain ⟨i2, hi2, hv0, hv1, hv2⟩ := info_parts strInfo
              go_wp2_with fail
              clear z1
              go_loopg [17, 95] PN (fun g s17 s95 wr => ∃ j : Nat, s95 = .int .i64 j ∧ j ≤ PN ∧ g = PN - j ∧ ∃ qv, Hid (RnSt w6 BR m.name qv ((m.params.take j).map (Ck.ren nf nt)) (.slice pvb WN cvb) rb wr))
              case atStart => exact ⟨0, rfl, Nat.zero_le _, rfl, _, HR0⟩
              case round =>
                obtain ⟨j, rfl, hj, rfl, qv, HST⟩ := hrel
                clear HR0
                by_cases hlt : j < PN
                · obtain ⟨s, hs⟩ : ∃ x, m.params[j]? = some x := ⟨_, List.getElem?_eq_getElem (by rw [HPN.out]; exact hlt)⟩
                  obtain ⟨p0, c0', e0', _, _, hx0⟩ := HSP.out
                  obtain ⟨hss, b', o', e2, hlt', hcell⟩ := hx0 j s hs
                  injection e0' with ea eb ec
                  rw [← ea] at e2
                  subst e2
                  have y0 := cell_keep' (below_next HB6.out HST.out.below) hcell
                  have b3j : (j : Int) < (PN : Int) := by omega
                  have HSS := Lib.hid hss
                  have HS0 := Lib.hid hs
                  have hly := cell_lt' y0
                  clear hs hss hcell hx0 ea eb ec hlt'
                  obtain ⟨w8, hw8⟩ : ∃ q, q = wr := ⟨_, rfl⟩
                  rw [← hw8] at HST y0 hly ⊢
                  clear hw8
                  go_upto_if 101 with fail
                  go_cut [17] (fun s17 wx => s17 = .string (Ck.ren nf nt s) ∧ wx = w8)
                  case first =>
                    cases hnm : decide (s = nf)
                    · have hq : (s.toList == nf.toList) = false := by rw [bytes_beq, hnm]
                      have hne := Lib.hid (of_decide_eq_false hnm)
                      clear hnm
                      rw [hq]
                      go_wp2_with fail
                      go_meet
                      exact ⟨by unfold Ck.ren; rw [if_neg hne.out], rfl⟩
                    · have hq : (s.toList == nf.toList) = true := by rw [bytes_beq, hnm]
                      have hne := Lib.hid (of_decide_eq_true hnm)
                      clear hnm
                      rw [hq]
                      go_wp2_with fail
                      go_meet
                      exact ⟨by unfold Ck.ren; rw [if_pos hne.out], rfl⟩
                  case rest =>
                    obtain ⟨rfl, hwc⟩ := hcut
                    rw [hwc]
                    clear hwc y0 hly
                    have htl : ((m.params.take j).map (Ck.ren nf nt)).length = j := by rw [List.length_map, List.length_take, HPN.out]; omega
                    have HTL := Lib.hid htl
                    obtain ⟨po, co, rfl⟩ := own_form HST.out.own
                    rw [htl] at HST
                    obtain ⟨s2, hs2⟩ : ∃ q, Ck.ren nf nt s = q := ⟨_, rfl⟩
                    have HS2 := Lib.hid hs2
                    rw [hs2]
                    have r1 := cell_of_blk HST.out.br (j := 1) (u := .slice po j co) rfl
                    have hbx5 := below_box w8 (.cells #[.string s2] 9)
                    have HRB := Lib.hid (HST.out.keep hbx5)
                    have HNW : Hid (∀ q u, (pCells s2)[q]? = some u → (w8.alloc (.cells #[.string s2] 9)).cell? ((⟨w8.heap.size, 0, none⟩ : Addr).add q) = some u) := news_cells (cs := #[.string s2]) rfl (by simp)
                    have hsz := HST.out.below.size
                    have hj2 : j ≤ 1000000 := by
                      have h1 := (((Ck.small_of HOK.out.1 (by decide)).all c (List.mem_of_getElem? HCX.out)).all m (List.mem_of_getElem? HMX.out)).params
                      rw [HPN.out] at h1
                      omega
                    clear htl hs2 hbx5
                    go_wp2_with (at_builtin; refine wpList_append_fresh _ rfl _ _ 31 rfl w6.heap.size 9 i2 (.string ⟨#[]⟩) 1 16 Tryz.underlying31 hi2 hv0 hv1 hv2 rfl (by decide) _ _ _ rfl HRB.out.own ⟨w8.heap.size, 0, none⟩ 1 1 (pCells s2) (by decide) rfl rfl HNW.out (by intro u hu; rcases List.mem_singleton.1 hu with rfl; rfl) (by rw [HTL.out]; unfold maxLen; omega) (by rw [HTL.out]; omega) (by simp only [World.size_alloc]; omega) ?_; intro v9 w9 ho9 hg9 hf9; have hk9 := HRB.out.br2 hg9; obtain ⟨p9, k9, rfl⟩ := own_form ho9; rw [HTL.out] at ho9 hf9 ⊢; have f9 := cell_of_blk hk9 (j := 1) (u := .slice po j co) rfl; have g9 : w9.frozen? ⟨BR, 1, none⟩ = false := by simp [World.frozen?, hk9])
                    go_roundg (PN - (j + 1))
                    case measure => omega
                    case rel =>
                      refine ⟨j + 1, by go_num, by omega, rfl, .slice p9 (j + 1) k9, ?_⟩
                      rw [take_get HS0.out, List.map_append, List.map_singleton, HS2.out]
                      refine HRB.out.app ?_ hg9 hf9
                      rw [List.length_append, flatV_append, flatV_cons, flatV_nil, List.append_nil, HTL.out]
                      exact ho9
                · obtain rfl : j = PN := by omega
                  have hfull : m.params.take j = m.params := List.take_of_length_le (by rw [HPN.out]; exact Nat.le_refl _)
                  rw [hfull] at HST
                  clear hfull
                  obtain ⟨w8, hw8⟩ : ∃ q, q = wr := ⟨_, rfl⟩
                  rw [← hw8] at HST ⊢
                  clear hw8
                  have hB8 := HST.out.below
                  obtain ⟨po, co, rfl⟩ := own_form HST.out.own
                  have htl : (m.params.map (Ck.ren nf nt)).length = j := by rw [List.length_map, HPN.out]
                  rw [htl] at HST
                  have HTL := Lib.hid htl
                  have HB8 := Lib.hid hB8
                  have HB8w := Lib.hid (below_next HB6.out hB8)
                  have C5 := Lib.hid (cell_keep' hB8 C4.out)
                  have HC8 : Hid (w8.heap[BC]? = some (.cells #[.string c.name, .bool c.actor, .slice pf FN cf, .slice (some ⟨mb, mo, none⟩) MN cm] 36 (0, 0))) := (hB8.block _ (lt_of_block HC6.out)).trans HC6.out
                  have y0 := cell_of_blk HC8.out (j := 0) rfl
                  have y1 := cell_of_blk HC8.out (j := 1) rfl
                  have y2 := cell_of_blk HC8.out (j := 2) rfl
                  clear htl hB8
                  obtain ⟨i1, hi1, hy0, hy1, hy2⟩ := info_parts methodInfo
                  have hbx9 := below_box w8 (.cells #[.string c.name, .bool c.actor, .slice pf FN cf, .slice none 0 0] 36)
                  have hbo9 := (MapKept.heap_alloc w8 (.cells #[.string c.name, .bool c.actor, .slice pf FN cf, .slice none 0 0] 36)).1
                  have hs9 := World.size_alloc w8 (.cells #[.string c.name, .bool c.actor, .slice pf FN cf, .slice none 0 0] 36)
                  obtain ⟨BO, hBO⟩ : ∃ q, w8.heap.size = q := ⟨_, rfl⟩
                  obtain ⟨w9, hw9⟩ : ∃ q, q = w8.alloc (.cells #[.string c.name, .bool c.actor, .slice pf FN cf, .slice none 0 0] 36) := ⟨_, rfl⟩
                  rw [← hw9] at hbx9 hbo9 hs9
                  rw [hBO] at hbo9
                  have HW9 := Lib.hid hw9
                  have HBO := Lib.hid hBO
                  have HBX9 := Lib.hid hbx9
                  have HBO9 := Lib.hid hbo9
                  have HS9 := Lib.hid hs9
                  have HB9 := Lib.hid (below_next HB8w.out hbx9)
                  have C6 := Lib.hid (cell_keep' hbx9 C5.out)
                  clear hw9 hBO hbx9 hbo9 hs9
                  go_wp2_with fail
                  rw [← HW9.out, HBO.out]
                  clear y0 y1 y2 HW9
                  have p2 := cell_of_blk HC8.out (j := 3) (u := .slice (some ⟨mb, mo, none⟩) MN cm) rfl
                  have p3 := cell_of_blk HST.out.br (j := 0) (u := .string m.name) rfl
                  have p4 := cell_of_blk HST.out.br (j := 1) (u := .slice po j co) rfl
                  have p5 := cell_of_blk HST.out.br (j := 2) (u := .slice pvb WN cvb) rfl
                  have q2 := cell_of_blk ((HBX9.out.block _ (lt_of_block HC8.out)).trans HC8.out) (j := 3) (u := .slice (some ⟨mb, mo, none⟩) MN cm) rfl
                  have hbr9 := (HBX9.out.block _ (lt_of_block HST.out.br)).trans HST.out.br
                  have q3 := cell_of_blk hbr9 (j := 0) (u := .string m.name) rfl
                  have q4 := cell_of_blk hbr9 (j := 1) (u := .slice po j co) rfl
                  have q5 := cell_of_blk hbr9 (j := 2) (u := .slice pvb WN cvb) rfl
                  clear hbr9
                  go_cut [] (fun wx => ∃ (po2 : Option Addr) (co2 : Nat), Hid (OtSt w8 BO (.string c.name) (.bool c.actor) (.slice pf FN cf) (.slice po2 MN co2) ((mrows.take QK ++ [((Ck.renM nf nt m, .slice po j co, .slice pvb WN cvb) : MT)]) ++ mrows.drop (QK + 1)) wx))
                  case first =>
                    refine wp_region_held_drew (S := fun W => W.cell? ⟨BC, 3, none⟩ = some (.slice (some ⟨mb, mo, none⟩) MN cm) ∧ W.cell? ⟨BR, 0, none⟩ = some (.string m.name) ∧ W.cell? ⟨BR, 1, none⟩ = some (.slice po j co) ∧ W.cell? ⟨BR, 2, none⟩ = some (.slice pvb WN cvb) ∧ Hid (Below w8.heap.size w8 W)) (by kernel_rfl) ?_ (fun hHeld => ?_)
                    · exact ⟨q2, q3, q4, q5, Lib.hid (HBX9.out.drew)⟩
                    have SK : Hid (∀ W, Below w8.heap.size w8 W → W.cell? ⟨BC, 3, none⟩ = some (.slice (some ⟨mb, mo, none⟩) MN cm) ∧ W.cell? ⟨BR, 0, none⟩ = some (.string m.name) ∧ W.cell? ⟨BR, 1, none⟩ = some (.slice po j co) ∧ W.cell? ⟨BR, 2, none⟩ = some (.slice pvb WN cvb) ∧ Hid (Below w8.heap.size w8 W)) := fun W hb => ⟨cell_keep' hb p2, cell_keep' hb p3, cell_keep' hb p4, cell_keep' hb p5, hb⟩
                    have HB : Hid (Below w9.heap.size w9 w9.drew) := (Below.refl _ _).drew
                    have hmcap : MN ≤ cm := by
                      obtain ⟨p0, c0', e0', _, hn0, _⟩ := HSM.out
                      have h1 := (hn0 (fun e => by have := HMN.out; rw [e] at this; simp at this; omega)).1
                      injection e0' with ea eb ec
                      rw [HMN.out] at h1
                      omega
                    have hkl := HKL.out
                    have hqc : QK ≤ cm := by omega
                    have hqc2 : QK + 1 ≤ MN := hkl
                    have hiA : (0 : Int) ≤ (QK : Int) + 1 := by omega
                    have hiB : (QK : Int) + 1 ≤ (MN : Int) := by omega
                    have hmn6 : MN ≤ 1000000 := by have h1 := ((Ck.small_of HOK.out.1 (by decide)).all c (List.mem_of_getElem? HCX.out)).mths; rw [HMN.out] at h1; exact h1
                    have b20 : IntKind.i64.wrap ((QK : Int) + 1) = (QK : Int) + 1 := IntWalk.i64_in _ (by omega)
                    have HSA : Hid (SrcAt w9 mCells (.slice (some ⟨mb, mo, none⟩) QK cm) (mrows.take QK)) := Lib.hid ((SrcAt.take (f := mCells) HMFLAT.out QK (by rw [HMR.out]; omega) rfl).keep HB9.out)
                    obtain ⟨pd, hpd⟩ : ∃ q, (if cm = QK + 1 then (some ⟨mb, mo, none⟩ : Option Addr) else some ⟨mb, mo + (QK + 1) * 3, none⟩) = q := ⟨_, rfl⟩
                    have hsd := (SrcAt.drop2 mCells_len HMFLAT.out (QK + 1) hqc2 HMR.out hmcap).keep HB9.out
                    rw [hpd] at hsd
                    have HSD : Hid (SrcAt w9 mCells (.slice pd (MN - (QK + 1)) (cm - (QK + 1))) (mrows.drop (QK + 1))) := hsd
                    clear hsd
                    have HO1 := Lib.hid (mCells_one fun x hx => HMREAD.out x (List.mem_of_mem_take (i := QK) hx))
                    have HO3 := Lib.hid (mCells_one fun x hx => HMREAD.out x (List.mem_of_mem_drop (i := QK + 1) hx))
                    have HO2 : Hid (∀ a ∈ [((Ck.renM nf nt m, .slice po j co, .slice pvb WN cvb) : MT)], ∀ u ∈ mCells a, u.oneCell' = true) := by
                      intro a ha u hu
                      obtain rfl := List.mem_singleton.1 ha
                      simp only [mCells, List.mem_cons, List.not_mem_nil, or_false] at hu
                      rcases hu with rfl | rfl | rfl <;> rfl
                    have HTK : Hid ((mrows.take QK).length = QK) := by show _ = _; rw [List.length_take, HMR.out]; omega
                    have HDR : Hid ((mrows.drop (QK + 1)).length = MN - (QK + 1)) := by show _ = _; rw [List.length_drop, HMR.out]
                    have HLEN : Hid (((mrows.take QK) ++ [((Ck.renM nf nt m, .slice po j co, .slice pvb WN cvb) : MT)] ++ (mrows.drop (QK + 1))).length = MN) := by show _ = _; rw [List.length_append, List.length_append, HTK.out, HDR.out, List.length_singleton]; omega
                    clear q2 q3 q4 q5
                    refine wpAnyH_take (i := 0) (oi := ⟨some 117, _, _, _, _, _⟩) (v := ?_) rfl (by kernel_rfl) (by kernel_rfl) (by kernel_rfl) (fun _ _ _ h => h) (Or.inl ⟨by rfl, ?_⟩) (by assumption) ?_
                    rotate_left
                    · (intro w hSw; (try dsimp only at hSw); go_simp; (try with_reducible rfl))
                    try simp only [Act.put, List.setIfInBounds_toArray, List.set_cons_zero, List.set_cons_succ]
                    refine wpAnyH_take (i := 2) (oi := ⟨some 119, _, _, _, _, _⟩) (v := ?_) rfl (by kernel_rfl) (by kernel_rfl) (by kernel_rfl) (fun _ _ _ h => h) (Or.inl ⟨by rfl, ?_⟩) (by assumption) ?_
                    rotate_left
                    · (intro w hSw; (try dsimp only at hSw); go_simp; (try with_reducible rfl))
                    try simp only [Act.put, List.setIfInBounds_toArray, List.set_cons_zero, List.set_cons_succ]
                    refine wpAnyH_take (i := 3) (oi := ⟨some 120, _, _, _, _, _⟩) (v := ?_) rfl (by kernel_rfl) (by kernel_rfl) (by kernel_rfl) (fun _ _ _ h => h) (Or.inl ⟨by rfl, ?_⟩) (by assumption) ?_
                    rotate_left
                    · (intro w hSw; (try dsimp only at hSw); go_simp; (try with_reducible rfl))
                    try simp only [Act.put, List.setIfInBounds_toArray, List.set_cons_zero, List.set_cons_succ]
                    refine wpAnyH_take (i := 4) (oi := ⟨some 121, _, _, _, _, _⟩) (v := ?_) rfl (by kernel_rfl) (by kernel_rfl) (by kernel_rfl) (fun _ _ _ h => h) (Or.inl ⟨by rfl, ?_⟩) (by assumption) ?_
                    rotate_left
                    · (intro w hSw; (try dsimp only at hSw); go_simp; (try with_reducible rfl))
                    try simp only [Act.put, List.setIfInBounds_toArray, List.set_cons_zero, List.set_cons_succ]
                    refine wpAnyH_take (i := 5) (oi := ⟨some 122, _, _, _, _, _⟩) (v := ?_) rfl (by kernel_rfl) (by kernel_rfl) (by kernel_rfl) (fun _ _ _ h => h) (Or.inl ⟨by rfl, ?_⟩) (by assumption) ?_
                    rotate_left
                    · (intro w hSw; (try dsimp only at hSw); go_simp; (try with_reducible rfl))
                    try simp only [Act.put, List.setIfInBounds_toArray, List.set_cons_zero, List.set_cons_succ]
                    refine wpAnyH_take (i := 7) (oi := ⟨some 124, _, _, _, _, _⟩) (v := ?_) rfl (by kernel_rfl) (by kernel_rfl) (by kernel_rfl) (fun _ _ _ h => h) (Or.inl ⟨by rfl, ?_⟩) (by assumption) ?_
                    rotate_left
                    · (intro w hSw; (try dsimp only at hSw); go_simp; (try with_reducible rfl))
                    try simp only [Act.put, List.setIfInBounds_toArray, List.set_cons_zero, List.set_cons_succ]
                    refine wpAnyH_take (i := 10) (oi := ⟨some 127, _, _, _, _, _⟩) (v := ?_) rfl (by kernel_rfl) (by kernel_rfl) (by kernel_rfl) (fun _ _ _ h => h) (Or.inl ⟨by rfl, ?_⟩) (by assumption) ?_
                    rotate_left
                    · (intro w hSw; (try dsimp only at hSw); go_simp; (try with_reducible rfl))
                    try simp only [Act.put, List.setIfInBounds_toArray, List.set_cons_zero, List.set_cons_succ]
                    refine wpAnyH_take (i := 11) (oi := ⟨some 128, _, _, _, _, _⟩) (v := ?_) rfl (by kernel_rfl) (by kernel_rfl) (by kernel_rfl) (fun _ _ _ h => h) (Or.inl ⟨by rfl, ?_⟩) (by assumption) ?_
                    rotate_left
                    · (intro w hSw; (try dsimp only at hSw); go_simp; (try with_reducible rfl))
                    try simp only [Act.put, List.setIfInBounds_toArray, List.set_cons_zero, List.set_cons_succ]
                    refine wpAnyH_take (i := 12) (oi := ⟨some 129, _, _, _, _, _⟩) (v := ?_) rfl (by kernel_rfl) (by kernel_rfl) (by kernel_rfl) (fun _ _ _ h => h) (Or.inl ⟨by rfl, ?_⟩) (by assumption) ?_
                    rotate_left
                    · (intro w hSw; (try dsimp only at hSw); go_simp; (try with_reducible rfl))
                    try simp only [Act.put, List.setIfInBounds_toArray, List.set_cons_zero, List.set_cons_succ]
                    refine wpAnyH_take (i := 13) (oi := ⟨some 130, _, _, _, _, _⟩) (v := ?_) rfl (by kernel_rfl) (by kernel_rfl) (by kernel_rfl) (fun _ _ _ h => h) (Or.inl ⟨by rfl, ?_⟩) (by assumption) ?_
                    rotate_left
                    · (intro w hSw; (try dsimp only at hSw); go_simp; (try with_reducible rfl))
                    try simp only [Act.put, List.setIfInBounds_toArray, List.set_cons_zero, List.set_cons_succ]
                    refine wpAnyH_take (i := 14) (oi := ⟨some 131, _, _, _, _, _⟩) (v := ?_) rfl (by kernel_rfl) (by kernel_rfl) (by kernel_rfl) (fun _ _ _ h => h) (Or.inl ⟨by rfl, ?_⟩) (by assumption) ?_
                    rotate_left
                    · (intro w hSw; (try dsimp only at hSw); go_simp; (try with_reducible rfl))
                    try simp only [Act.put, List.setIfInBounds_toArray, List.set_cons_zero, List.set_cons_succ]
                    refine wpAnyH_ready (rs := [1, 8]) (by kernel_rfl) (by simp) ?_
                    refine AllReadyH.cons (o := ⟨some 118, _, _, _, _, _⟩) rfl (fun K hK => ?_) (AllReadyH.cons (o := ⟨some 125, _, _, _, _, _⟩) rfl (fun K hK => ?_) AllReadyH.nil)
                    · have x3 := cell_of_blk ((HB.out.block _ (lt_of_block HBO9.out)).trans HBO9.out) (j := 3) (u := .slice none 0 0) rfl
                      go_simp
                      refine hK.out _ _ ?_ (fun hHeld => ?_)
                      · exact hHeld
                      clear hK K
                      try simp only [Act.put, List.setIfInBounds_toArray, List.set_cons_zero, List.set_cons_succ]
                      clear x3
                      refine wpAnyH_ready (rs := [6, 8]) (by kernel_rfl) (by simp) ?_
                      refine AllReadyH.cons (o := ⟨some 123, _, _, _, _, _⟩) rfl (fun K hK => ?_) (AllReadyH.cons (o := ⟨some 125, _, _, _, _, _⟩) rfl (fun K hK => ?_) AllReadyH.nil)
                      · refine step_append_src mCells 3 mCells_len (by rfl) _ _ 34 (by rfl) w9.heap.size 41 i1 (.agg #[.string ⟨#[]⟩, .slice none 0 0, .slice none 0 0]) 64 Tryz.underlying34 hi1 hy0 hy1 hy2 (by rfl) (by decide) _ _ [] (mrows.take QK) (by rfl) (by rfl) (World.ownsRow_nil _ _ _ _) (HSA.out.keep HB.out) (HO1.out) (by rw [HTK.out]; show (0 + QK) ≤ maxLen; unfold maxLen; omega) (by rw [HTK.out]; show (0 + QK) * 64 ≤ 140737488355328; omega) (by exact HB.out.size) ?_
                        intro v1 w10 ho hg
                        have hba := HB.out.grown hg HB.out.size (fun q hq => by simp [Value.ownBlock] at hq)
                        rw [List.nil_append] at ho
                        refine hK.out _ _ ?_ (fun hHeld => ?_)
                        · exact SK.out _ (below_next HBX9.out hba)
                        clear hK K
                        try simp only [Act.put, List.setIfInBounds_toArray, List.set_cons_zero, List.set_cons_succ]
                        have HOW := Lib.hid ho
                        have HB := Lib.hid hba
                        clear ho hg hba
                        refine wpAnyH_ready (rs := [8]) (by kernel_rfl) (by simp) ?_
                        refine AllReadyH.cons (o := ⟨some 125, _, _, _, _, _⟩) rfl (fun K hK => ?_) AllReadyH.nil
                        go_simp
                        have HL := Lib.hid (SrcAt.lit (f := mCells) w10 ((Ck.renM nf nt m, .slice po j co, .slice pvb WN cvb) : MT) 41 #[.string m.name, .slice po j co, .slice pvb WN cvb] rfl 1)
                        have hba := below_next HB.out (below_box w10 (.cells #[.string m.name, .slice po j co, .slice pvb WN cvb] 41))
                        refine hK.out _ _ ?_ (fun hHeld => ?_)
                        · exact SK.out _ (below_next HBX9.out hba)
                        clear hK K
                        try simp only [Act.put, List.setIfInBounds_toArray, List.set_cons_zero, List.set_cons_succ]
                        have HB := Lib.hid hba
                        clear hba
                        have HOW := Lib.hid (own_below HOW.out (below_box w10 (.cells #[.string m.name, .slice po j co, .slice pvb WN cvb] 41)))
                        refine wpAnyH_ready (rs := [9]) (by kernel_rfl) (by simp) ?_
                        refine AllReadyH.cons (o := ⟨some 126, _, _, _, _, _⟩) rfl (fun K hK => ?_) AllReadyH.nil
                        refine step_append_src mCells 3 mCells_len (by rfl) _ _ 34 (by rfl) w9.heap.size 41 i1 (.agg #[.string ⟨#[]⟩, .slice none 0 0, .slice none 0 0]) 64 Tryz.underlying34 hi1 hy0 hy1 hy2 (by rfl) (by decide) _ _ (mrows.take QK) [((Ck.renM nf nt m, .slice po j co, .slice pvb WN cvb) : MT)] (by rfl) (by rfl) (HOW.out) (HL.out) (HO2.out) (by rw [HTK.out]; show (QK + 1) ≤ maxLen; unfold maxLen; omega) (by rw [HTK.out]; show (QK + 1) * 64 ≤ 140737488355328; omega) (by exact HB.out.size) ?_
                        intro v2 w11 ho hg
                        have hba := HB.out.grown hg HB.out.size (fun q hq => (own_ge HOW.out hq).1)
                        refine hK.out _ _ ?_ (fun hHeld => ?_)
                        · exact SK.out _ (below_next HBX9.out hba)
                        clear hK K
                        try simp only [Act.put, List.setIfInBounds_toArray, List.set_cons_zero, List.set_cons_succ]
                        have HOX := Lib.hid ho
                        have HB := Lib.hid hba
                        clear ho hg hba
                        refine wpAnyH_ready (rs := [15]) (by kernel_rfl) (by simp) ?_
                        refine AllReadyH.cons (o := ⟨some 132, _, _, _, _, _⟩) rfl (fun K hK => ?_) AllReadyH.nil
                        refine step_append_src mCells 3 mCells_len (by rfl) _ _ 34 (by rfl) w9.heap.size 41 i1 (.agg #[.string ⟨#[]⟩, .slice none 0 0, .slice none 0 0]) 64 Tryz.underlying34 hi1 hy0 hy1 hy2 (by rfl) (by decide) _ _ ((mrows.take QK) ++ [((Ck.renM nf nt m, .slice po j co, .slice pvb WN cvb) : MT)]) (mrows.drop (QK + 1)) (by rfl) (by rfl) (HOX.out) (HSD.out.keep HB.out) (HO3.out) (by rw [List.length_append, HTK.out, HDR.out]; show (QK + 1 + (MN - (QK + 1))) ≤ maxLen; unfold maxLen; omega) (by rw [List.length_append, HTK.out, HDR.out]; show (QK + 1 + (MN - (QK + 1))) * 64 ≤ 140737488355328; omega) (by exact HB.out.size) ?_
                        intro v3 w12 ho hg
                        have hba := HB.out.grown hg HB.out.size (fun q hq => (own_ge HOX.out hq).1)
                        obtain ⟨po9, co9, rfl⟩ := own_form ho
                        rw [HLEN.out] at ho ⊢
                        refine hK.out _ _ ?_ (fun hHeld => ?_)
                        · exact SK.out _ (below_next HBX9.out hba)
                        clear hK K
                        try simp only [Act.put, List.setIfInBounds_toArray, List.set_cons_zero, List.set_cons_succ]
                        have HOY := Lib.hid ho
                        have HB := Lib.hid hba
                        clear ho hg hba
                        refine wpAnyH_take (i := 16) (oi := ⟨some 133, _, _, _, _, _⟩) (v := ?_) rfl (by kernel_rfl) (by kernel_rfl) (by kernel_rfl) (fun _ _ _ h => h) (Or.inl ⟨by rfl, ?_⟩) (by assumption) ?_
                        rotate_left
                        · (intro w hSw; (try dsimp only at hSw); go_simp; (try with_reducible rfl))
                        try simp only [Act.put, List.setIfInBounds_toArray, List.set_cons_zero, List.set_cons_succ]
                        refine wpAnyH_ready (rs := [17]) (by kernel_rfl) (by simp) ?_
                        refine AllReadyH.cons (o := ⟨none, _, _, _, _, _⟩) rfl (fun K hK => ?_) AllReadyH.nil
                        have x3 := cell_of_blk ((HB.out.block _ (lt_of_block HBO9.out)).trans HBO9.out) (j := 3) (u := .slice none 0 0) rfl
                        have f3 : w12.frozen? ⟨BO, 3, none⟩ = false := by have h9 := (HB.out.block _ (lt_of_block HBO9.out)).trans HBO9.out; simp [World.frozen?, h9]
                        have HSTo := Lib.hid (OtSt.made HS9.out HBX9.out HBO.out HBO9.out HB.out (v := .slice po9 MN co9) (tr := ((mrows.take QK) ++ [((Ck.renM nf nt m, .slice po j co, .slice pvb WN cvb) : MT)]) ++ (mrows.drop (QK + 1))) (by rw [HLEN.out]; exact HOY.out))
                        go_simp
                        refine hK.out _ _ ?_ (fun hHeld => ?_)
                        · exact SK.out _ HSTo.out.below
                        clear hK K
                        try simp only [Act.put, List.setIfInBounds_toArray, List.set_cons_zero, List.set_cons_succ]
                        refine wpAnyH_done (by kernel_rfl) ?_ _
                        clear hHeld
                        go_wp2_with fail
                        all_goals go_meet
                        all_goals exact ⟨po9, co9, HSTo⟩
                      · go_simp
                        have HL := Lib.hid (SrcAt.lit (f := mCells) w9 ((Ck.renM nf nt m, .slice po j co, .slice pvb WN cvb) : MT) 41 #[.string m.name, .slice po j co, .slice pvb WN cvb] rfl 1)
                        have hba := (below_box w9 (.cells #[.string m.name, .slice po j co, .slice pvb WN cvb] 41)).drew
                        refine hK.out _ _ ?_ (fun hHeld => ?_)
                        · exact SK.out _ (below_next HBX9.out hba)
                        clear hK K
                        try simp only [Act.put, List.setIfInBounds_toArray, List.set_cons_zero, List.set_cons_succ]
                        have HB := Lib.hid hba
                        clear hba
                        refine wpAnyH_ready (rs := [6]) (by kernel_rfl) (by simp) ?_
                        refine AllReadyH.cons (o := ⟨some 123, _, _, _, _, _⟩) rfl (fun K hK => ?_) AllReadyH.nil
                        refine step_append_src mCells 3 mCells_len (by rfl) _ _ 34 (by rfl) w9.heap.size 41 i1 (.agg #[.string ⟨#[]⟩, .slice none 0 0, .slice none 0 0]) 64 Tryz.underlying34 hi1 hy0 hy1 hy2 (by rfl) (by decide) _ _ [] (mrows.take QK) (by rfl) (by rfl) (World.ownsRow_nil _ _ _ _) (HSA.out.keep HB.out) (HO1.out) (by rw [HTK.out]; show (0 + QK) ≤ maxLen; unfold maxLen; omega) (by rw [HTK.out]; show (0 + QK) * 64 ≤ 140737488355328; omega) (by exact HB.out.size) ?_
                        intro v1 w10 ho hg
                        have hba := HB.out.grown hg HB.out.size (fun q hq => by simp [Value.ownBlock] at hq)
                        rw [List.nil_append] at ho
                        have HL := Lib.hid (HL.out.keep (((Below.refl _ (w9.alloc (.cells #[.string m.name, .slice po j co, .slice pvb WN cvb] 41))).drew).grown hg (Nat.le_refl _) (fun q hq => by simp [Value.ownBlock] at hq)))
                        refine hK.out _ _ ?_ (fun hHeld => ?_)
                        · exact SK.out _ (below_next HBX9.out hba)
                        clear hK K
                        try simp only [Act.put, List.setIfInBounds_toArray, List.set_cons_zero, List.set_cons_succ]
                        have HOW := Lib.hid ho
                        have HB := Lib.hid hba
                        clear ho hg hba
                        refine wpAnyH_ready (rs := [9]) (by kernel_rfl) (by simp) ?_
                        refine AllReadyH.cons (o := ⟨some 126, _, _, _, _, _⟩) rfl (fun K hK => ?_) AllReadyH.nil
                        refine step_append_src mCells 3 mCells_len (by rfl) _ _ 34 (by rfl) w9.heap.size 41 i1 (.agg #[.string ⟨#[]⟩, .slice none 0 0, .slice none 0 0]) 64 Tryz.underlying34 hi1 hy0 hy1 hy2 (by rfl) (by decide) _ _ (mrows.take QK) [((Ck.renM nf nt m, .slice po j co, .slice pvb WN cvb) : MT)] (by rfl) (by rfl) (HOW.out) (HL.out) (HO2.out) (by rw [HTK.out]; show (QK + 1) ≤ maxLen; unfold maxLen; omega) (by rw [HTK.out]; show (QK + 1) * 64 ≤ 140737488355328; omega) (by exact HB.out.size) ?_
                        intro v2 w11 ho hg
                        have hba := HB.out.grown hg HB.out.size (fun q hq => (own_ge HOW.out hq).1)
                        refine hK.out _ _ ?_ (fun hHeld => ?_)
                        · exact SK.out _ (below_next HBX9.out hba)
                        clear hK K
                        try simp only [Act.put, List.setIfInBounds_toArray, List.set_cons_zero, List.set_cons_succ]
                        have HOX := Lib.hid ho
                        have HB := Lib.hid hba
                        clear ho hg hba
                        refine wpAnyH_ready (rs := [15]) (by kernel_rfl) (by simp) ?_
                        refine AllReadyH.cons (o := ⟨some 132, _, _, _, _, _⟩) rfl (fun K hK => ?_) AllReadyH.nil
                        refine step_append_src mCells 3 mCells_len (by rfl) _ _ 34 (by rfl) w9.heap.size 41 i1 (.agg #[.string ⟨#[]⟩, .slice none 0 0, .slice none 0 0]) 64 Tryz.underlying34 hi1 hy0 hy1 hy2 (by rfl) (by decide) _ _ ((mrows.take QK) ++ [((Ck.renM nf nt m, .slice po j co, .slice pvb WN cvb) : MT)]) (mrows.drop (QK + 1)) (by rfl) (by rfl) (HOX.out) (HSD.out.keep HB.out) (HO3.out) (by rw [List.length_append, HTK.out, HDR.out]; show (QK + 1 + (MN - (QK + 1))) ≤ maxLen; unfold maxLen; omega) (by rw [List.length_append, HTK.out, HDR.out]; show (QK + 1 + (MN - (QK + 1))) * 64 ≤ 140737488355328; omega) (by exact HB.out.size) ?_
                        intro v3 w12 ho hg
                        have hba := HB.out.grown hg HB.out.size (fun q hq => (own_ge HOX.out hq).1)
                        obtain ⟨po9, co9, rfl⟩ := own_form ho
                        rw [HLEN.out] at ho ⊢
                        refine hK.out _ _ ?_ (fun hHeld => ?_)
                        · exact SK.out _ (below_next HBX9.out hba)
                        clear hK K
                        try simp only [Act.put, List.setIfInBounds_toArray, List.set_cons_zero, List.set_cons_succ]
                        have HOY := Lib.hid ho
                        have HB := Lib.hid hba
                        clear ho hg hba
                        refine wpAnyH_take (i := 16) (oi := ⟨some 133, _, _, _, _, _⟩) (v := ?_) rfl (by kernel_rfl) (by kernel_rfl) (by kernel_rfl) (fun _ _ _ h => h) (Or.inl ⟨by rfl, ?_⟩) (by assumption) ?_
                        rotate_left
                        · (intro w hSw; (try dsimp only at hSw); go_simp; (try with_reducible rfl))
                        try simp only [Act.put, List.setIfInBounds_toArray, List.set_cons_zero, List.set_cons_succ]
                        refine wpAnyH_ready (rs := [17]) (by kernel_rfl) (by simp) ?_
                        refine AllReadyH.cons (o := ⟨none, _, _, _, _, _⟩) rfl (fun K hK => ?_) AllReadyH.nil
                        have x3 := cell_of_blk ((HB.out.block _ (lt_of_block HBO9.out)).trans HBO9.out) (j := 3) (u := .slice none 0 0) rfl
                        have f3 : w12.frozen? ⟨BO, 3, none⟩ = false := by have h9 := (HB.out.block _ (lt_of_block HBO9.out)).trans HBO9.out; simp [World.frozen?, h9]
                        have HSTo := Lib.hid (OtSt.made HS9.out HBX9.out HBO.out HBO9.out HB.out (v := .slice po9 MN co9) (tr := ((mrows.take QK) ++ [((Ck.renM nf nt m, .slice po j co, .slice pvb WN cvb) : MT)]) ++ (mrows.drop (QK + 1))) (by rw [HLEN.out]; exact HOY.out))
                        go_simp
                        refine hK.out _ _ ?_ (fun hHeld => ?_)
                        · exact SK.out _ HSTo.out.below
                        clear hK K
                        try simp only [Act.put, List.setIfInBounds_toArray, List.set_cons_zero, List.set_cons_succ]
                        refine wpAnyH_done (by kernel_rfl) ?_ _
                        clear hHeld
                        go_wp2_with fail
                        all_goals go_meet
                        all_goals exact ⟨po9, co9, HSTo⟩
                    · go_simp
                      have HL := Lib.hid (SrcAt.lit (f := mCells) w9 ((Ck.renM nf nt m, .slice po j co, .slice pvb WN cvb) : MT) 41 #[.string m.name, .slice po j co, .slice pvb WN cvb] rfl 1)
                      have hba := (below_box w9 (.cells #[.string m.name, .slice po j co, .slice pvb WN cvb] 41)).drew
                      refine hK.out _ _ ?_ (fun hHeld => ?_)
                      · exact SK.out _ (below_next HBX9.out hba)
                      clear hK K
                      try simp only [Act.put, List.setIfInBounds_toArray, List.set_cons_zero, List.set_cons_succ]
                      have HB := Lib.hid hba
                      clear hba
                      refine wpAnyH_ready (rs := [1]) (by kernel_rfl) (by simp) ?_
                      refine AllReadyH.cons (o := ⟨some 118, _, _, _, _, _⟩) rfl (fun K hK => ?_) AllReadyH.nil
                      have x3 := cell_of_blk ((HB.out.block _ (lt_of_block HBO9.out)).trans HBO9.out) (j := 3) (u := .slice none 0 0) rfl
                      go_simp
                      refine hK.out _ _ ?_ (fun hHeld => ?_)
                      · exact hHeld
                      clear hK K
                      try simp only [Act.put, List.setIfInBounds_toArray, List.set_cons_zero, List.set_cons_succ]
                      clear x3
                      refine wpAnyH_ready (rs := [6]) (by kernel_rfl) (by simp) ?_
                      refine AllReadyH.cons (o := ⟨some 123, _, _, _, _, _⟩) rfl (fun K hK => ?_) AllReadyH.nil
                      refine step_append_src mCells 3 mCells_len (by rfl) _ _ 34 (by rfl) w9.heap.size 41 i1 (.agg #[.string ⟨#[]⟩, .slice none 0 0, .slice none 0 0]) 64 Tryz.underlying34 hi1 hy0 hy1 hy2 (by rfl) (by decide) _ _ [] (mrows.take QK) (by rfl) (by rfl) (World.ownsRow_nil _ _ _ _) (HSA.out.keep HB.out) (HO1.out) (by rw [HTK.out]; show (0 + QK) ≤ maxLen; unfold maxLen; omega) (by rw [HTK.out]; show (0 + QK) * 64 ≤ 140737488355328; omega) (by exact HB.out.size) ?_
                      intro v1 w10 ho hg
                      have hba := HB.out.grown hg HB.out.size (fun q hq => by simp [Value.ownBlock] at hq)
                      rw [List.nil_append] at ho
                      have HL := Lib.hid (HL.out.keep (((Below.refl _ (w9.alloc (.cells #[.string m.name, .slice po j co, .slice pvb WN cvb] 41))).drew).grown hg (Nat.le_refl _) (fun q hq => by simp [Value.ownBlock] at hq)))
                      refine hK.out _ _ ?_ (fun hHeld => ?_)
                      · exact SK.out _ (below_next HBX9.out hba)
                      clear hK K
                      try simp only [Act.put, List.setIfInBounds_toArray, List.set_cons_zero, List.set_cons_succ]
                      have HOW := Lib.hid ho
                      have HB := Lib.hid hba
                      clear ho hg hba
                      refine wpAnyH_ready (rs := [9]) (by kernel_rfl) (by simp) ?_
                      refine AllReadyH.cons (o := ⟨some 126, _, _, _, _, _⟩) rfl (fun K hK => ?_) AllReadyH.nil
                      refine step_append_src mCells 3 mCells_len (by rfl) _ _ 34 (by rfl) w9.heap.size 41 i1 (.agg #[.string ⟨#[]⟩, .slice none 0 0, .slice none 0 0]) 64 Tryz.underlying34 hi1 hy0 hy1 hy2 (by rfl) (by decide) _ _ (mrows.take QK) [((Ck.renM nf nt m, .slice po j co, .slice pvb WN cvb) : MT)] (by rfl) (by rfl) (HOW.out) (HL.out) (HO2.out) (by rw [HTK.out]; show (QK + 1) ≤ maxLen; unfold maxLen; omega) (by rw [HTK.out]; show (QK + 1) * 64 ≤ 140737488355328; omega) (by exact HB.out.size) ?_
                      intro v2 w11 ho hg
                      have hba := HB.out.grown hg HB.out.size (fun q hq => (own_ge HOW.out hq).1)
                      refine hK.out _ _ ?_ (fun hHeld => ?_)
                      · exact SK.out _ (below_next HBX9.out hba)
                      clear hK K
                      try simp only [Act.put, List.setIfInBounds_toArray, List.set_cons_zero, List.set_cons_succ]
                      have HOX := Lib.hid ho
                      have HB := Lib.hid hba
                      clear ho hg hba
                      refine wpAnyH_ready (rs := [15]) (by kernel_rfl) (by simp) ?_
                      refine AllReadyH.cons (o := ⟨some 132, _, _, _, _, _⟩) rfl (fun K hK => ?_) AllReadyH.nil
                      refine step_append_src mCells 3 mCells_len (by rfl) _ _ 34 (by rfl) w9.heap.size 41 i1 (.agg #[.string ⟨#[]⟩, .slice none 0 0, .slice none 0 0]) 64 Tryz.underlying34 hi1 hy0 hy1 hy2 (by rfl) (by decide) _ _ ((mrows.take QK) ++ [((Ck.renM nf nt m, .slice po j co, .slice pvb WN cvb) : MT)]) (mrows.drop (QK + 1)) (by rfl) (by rfl) (HOX.out) (HSD.out.keep HB.out) (HO3.out) (by rw [List.length_append, HTK.out, HDR.out]; show (QK + 1 + (MN - (QK + 1))) ≤ maxLen; unfold maxLen; omega) (by rw [List.length_append, HTK.out, HDR.out]; show (QK + 1 + (MN - (QK + 1))) * 64 ≤ 140737488355328; omega) (by exact HB.out.size) ?_
                      intro v3 w12 ho hg
                      have hba := HB.out.grown hg HB.out.size (fun q hq => (own_ge HOX.out hq).1)
                      obtain ⟨po9, co9, rfl⟩ := own_form ho
                      rw [HLEN.out] at ho ⊢
                      refine hK.out _ _ ?_ (fun hHeld => ?_)
                      · exact SK.out _ (below_next HBX9.out hba)
                      clear hK K
                      try simp only [Act.put, List.setIfInBounds_toArray, List.set_cons_zero, List.set_cons_succ]
                      have HOY := Lib.hid ho
                      have HB := Lib.hid hba
                      clear ho hg hba
                      refine wpAnyH_take (i := 16) (oi := ⟨some 133, _, _, _, _, _⟩) (v := ?_) rfl (by kernel_rfl) (by kernel_rfl) (by kernel_rfl) (fun _ _ _ h => h) (Or.inl ⟨by rfl, ?_⟩) (by assumption) ?_
                      rotate_left
                      · (intro w hSw; (try dsimp only at hSw); go_simp; (try with_reducible rfl))
                      try simp only [Act.put, List.setIfInBounds_toArray, List.set_cons_zero, List.set_cons_succ]
                      refine wpAnyH_ready (rs := [17]) (by kernel_rfl) (by simp) ?_
                      refine AllReadyH.cons (o := ⟨none, _, _, _, _, _⟩) rfl (fun K hK => ?_) AllReadyH.nil
                      have x3 := cell_of_blk ((HB.out.block _ (lt_of_block HBO9.out)).trans HBO9.out) (j := 3) (u := .slice none 0 0) rfl
                      have f3 : w12.frozen? ⟨BO, 3, none⟩ = false := by have h9 := (HB.out.block _ (lt_of_block HBO9.out)).trans HBO9.out; simp [World.frozen?, h9]
                      have HSTo := Lib.hid (OtSt.made HS9.out HBX9.out HBO.out HBO9.out HB.out (v := .slice po9 MN co9) (tr := ((mrows.take QK) ++ [((Ck.renM nf nt m, .slice po j co, .slice pvb WN cvb) : MT)]) ++ (mrows.drop (QK + 1))) (by rw [HLEN.out]; exact HOY.out))
                      go_simp
                      refine hK.out _ _ ?_ (fun hHeld => ?_)
                      · exact SK.out _ HSTo.out.below
                      clear hK K
                      try simp only [Act.put, List.setIfInBounds_toArray, List.set_cons_zero, List.set_cons_succ]
                      refine wpAnyH_done (by kernel_rfl) ?_ _
                      clear hHeld
                      go_wp2_with fail
                      all_goals go_meet
                      all_goals exact ⟨po9, co9, HSTo⟩
                  case rest =>
                    obtain ⟨po2, co2, HOT⟩ := hcut
                    clear p2 p3 p4 p5 q2 q3 q4 q5
                    obtain ⟨wa, hwa⟩ : ∃ q, q = wc := ⟨_, rfl⟩
                    rw [← hwa] at HOT ⊢
                    clear hwa
                    have HBA := Lib.hid (below_next HB8w.out HOT.out.below)
                    have C7 := Lib.hid (cell_keep' HOT.out.below C5.out)
                    have hbx := below_box wa (.cells #[.slice none 0 0] 24)
                    have hbo := (MapKept.heap_alloc wa (.cells #[.slice none 0 0] 24)).1
                    have hsb := World.size_alloc wa (.cells #[.slice none 0 0] 24)
                    obtain ⟨BQ, hBQ⟩ : ∃ q, wa.heap.size = q := ⟨_, rfl⟩
                    obtain ⟨wb, hwb⟩ : ∃ q, q = wa.alloc (.cells #[.slice none 0 0] 24) := ⟨_, rfl⟩
                    rw [← hwb] at hbx hbo hsb
                    rw [hBQ] at hbo
                    have HWB := Lib.hid hwb
                    have HBQ := Lib.hid hBQ
                    have HBXB := Lib.hid hbx
                    have HBOB := Lib.hid hbo
                    have HSB2 := Lib.hid hsb
                    have HBB := Lib.hid (below_next HBA.out hbx)
                    clear hwb hBQ hbx hbo hsb
                    go_upto_region 22 with fail
                    rw [← HWB.out, HBQ.out]
                    clear HWB
                    have p1 := C7.out
                    have p2 := cell_of_blk HOT.out.bo (j := 0) (u := .string c.name) rfl
                    have p3 := cell_of_blk HOT.out.bo (j := 1) (u := .bool c.actor) rfl
                    have p4 := cell_of_blk HOT.out.bo (j := 2) (u := .slice pf FN cf) rfl
                    have p5 := cell_of_blk HOT.out.bo (j := 3) (u := .slice po2 MN co2) rfl
                    have q1 := cell_keep' HBXB.out p1
                    have q2 := cell_keep' HBXB.out p2
                    have q3 := cell_keep' HBXB.out p3
                    have q4 := cell_keep' HBXB.out p4
                    have q5 := cell_keep' HBXB.out p5
                    go_cut [] (fun wx => ∃ (po2' : Option Addr) (co2' : Nat), Hid (QtSt wa BQ (.slice po2' CN co2') ((rows.take J ++ [((Ck.renC nf nt QK m c, .slice pf FN cf, .slice po2 MN co2) : CT)]) ++ rows.drop (J + 1)) wx))
                    case first =>
                      refine wp_region_held_drew (S := fun W => W.cell? ⟨w.heap.size, 0, none⟩ = some (.slice (some ⟨b, oo, none⟩) CN cpv) ∧ W.cell? ⟨BO, 0, none⟩ = some (.string c.name) ∧ W.cell? ⟨BO, 1, none⟩ = some (.bool c.actor) ∧ W.cell? ⟨BO, 2, none⟩ = some (.slice pf FN cf) ∧ W.cell? ⟨BO, 3, none⟩ = some (.slice po2 MN co2) ∧ Hid (Below wa.heap.size wa W)) (by kernel_rfl) ?_ (fun hHeld => ?_)
                      · exact ⟨q1, q2, q3, q4, q5, Lib.hid (HBXB.out.drew)⟩
                      have SK : Hid (∀ W, Below wa.heap.size wa W → W.cell? ⟨w.heap.size, 0, none⟩ = some (.slice (some ⟨b, oo, none⟩) CN cpv) ∧ W.cell? ⟨BO, 0, none⟩ = some (.string c.name) ∧ W.cell? ⟨BO, 1, none⟩ = some (.bool c.actor) ∧ W.cell? ⟨BO, 2, none⟩ = some (.slice pf FN cf) ∧ W.cell? ⟨BO, 3, none⟩ = some (.slice po2 MN co2) ∧ Hid (Below wa.heap.size wa W)) := fun W hb => ⟨cell_keep' hb p1, cell_keep' hb p2, cell_keep' hb p3, cell_keep' hb p4, cell_keep' hb p5, hb⟩
                      have HB : Hid (Below wb.heap.size wb wb.drew) := (Below.refl _ _).drew
                      have hccap : CN ≤ cpv := by
                        obtain ⟨p0, c0', e0', _, hn0, _⟩ := HS.out
                        have h1 := (hn0 (fun e => by have := HCN.out; rw [e] at this; simp at this; omega)).1
                        injection e0' with ea eb ec
                        rw [HCN.out] at h1
                        omega
                      have hkl := HJL.out
                      have hqc : J ≤ cpv := by omega
                      have hqc2 : J + 1 ≤ CN := hkl
                      have hiA : (0 : Int) ≤ (J : Int) + 1 := by omega
                      have hiB : (J : Int) + 1 ≤ (CN : Int) := by omega
                      have hcn6 : CN ≤ 1000000 := by have h1 := Nat.le_trans (len_cnt cs) (Ck.small_of HOK.out.1 (by decide)).cnt; rw [HCN.out] at h1; exact h1
                      have b22 : IntKind.i64.wrap ((J : Int) + 1) = (J : Int) + 1 := IntWalk.i64_in _ (by omega)
                      have HSA : Hid (SrcAt wb cCells (.slice (some ⟨b, oo, none⟩) J cpv) (rows.take J)) := Lib.hid ((SrcAt.take (f := cCells) HFLAT.out J (by rw [HRN.out]; omega) rfl).keep HBB.out)
                      obtain ⟨pd, hpd⟩ : ∃ q, (if cpv = J + 1 then (some ⟨b, oo, none⟩ : Option Addr) else some ⟨b, oo + (J + 1) * 4, none⟩) = q := ⟨_, rfl⟩
                      have hsd := (SrcAt.drop2 cCells_len HFLAT.out (J + 1) hqc2 HRN.out hccap).keep HBB.out
                      rw [hpd] at hsd
                      have HSD : Hid (SrcAt wb cCells (.slice pd (CN - (J + 1)) (cpv - (J + 1))) (rows.drop (J + 1))) := hsd
                      clear hsd
                      have HO1 := Lib.hid (cCells_one fun x hx => HREAD.out x (List.mem_of_mem_take (i := J) hx))
                      have HO3 := Lib.hid (cCells_one fun x hx => HREAD.out x (List.mem_of_mem_drop (i := J + 1) hx))
                      have HO2 : Hid (∀ a ∈ [((Ck.renC nf nt QK m c, .slice pf FN cf, .slice po2 MN co2) : CT)], ∀ u ∈ cCells a, u.oneCell' = true) := by
                        intro a ha u hu
                        obtain rfl := List.mem_singleton.1 ha
                        simp only [cCells, List.mem_cons, List.not_mem_nil, or_false] at hu
                        rcases hu with rfl | rfl | rfl | rfl <;> rfl
                      have HTK : Hid ((rows.take J).length = J) := by show _ = _; rw [List.length_take, HRN.out]; omega
                      have HDR : Hid ((rows.drop (J + 1)).length = CN - (J + 1)) := by show _ = _; rw [List.length_drop, HRN.out]
                      have HLEN : Hid (((rows.take J) ++ [((Ck.renC nf nt QK m c, .slice pf FN cf, .slice po2 MN co2) : CT)] ++ (rows.drop (J + 1))).length = CN) := by show _ = _; rw [List.length_append, List.length_append, HTK.out, HDR.out, List.length_singleton]; omega
                      clear q1 q2 q3 q4 q5
                      refine wpAnyH_take (i := 0) (oi := ⟨some 134, _, _, _, _, _⟩) (v := ?_) rfl (by kernel_rfl) (by kernel_rfl) (by kernel_rfl) (fun _ _ _ h => h) (Or.inl ⟨by rfl, ?_⟩) (by assumption) ?_
                      rotate_left
                      · (intro w hSw; (try dsimp only at hSw); go_simp; (try with_reducible rfl))
                      try simp only [Act.put, List.setIfInBounds_toArray, List.set_cons_zero, List.set_cons_succ]
                      refine wpAnyH_take (i := 2) (oi := ⟨some 136, _, _, _, _, _⟩) (v := ?_) rfl (by kernel_rfl) (by kernel_rfl) (by kernel_rfl) (fun _ _ _ h => h) (Or.inl ⟨by rfl, ?_⟩) (by assumption) ?_
                      rotate_left
                      · (intro w hSw; (try dsimp only at hSw); go_simp; (try with_reducible rfl))
                      try simp only [Act.put, List.setIfInBounds_toArray, List.set_cons_zero, List.set_cons_succ]
                      refine wpAnyH_take (i := 3) (oi := ⟨some 137, _, _, _, _, _⟩) (v := ?_) rfl (by kernel_rfl) (by kernel_rfl) (by kernel_rfl) (fun _ _ _ h => h) (Or.inl ⟨by rfl, ?_⟩) (by assumption) ?_
                      rotate_left
                      · (intro w hSw; (try dsimp only at hSw); go_simp; (try with_reducible rfl))
                      try simp only [Act.put, List.setIfInBounds_toArray, List.set_cons_zero, List.set_cons_succ]
                      refine wpAnyH_take (i := 4) (oi := ⟨some 138, _, _, _, _, _⟩) (v := ?_) rfl (by kernel_rfl) (by kernel_rfl) (by kernel_rfl) (fun _ _ _ h => h) (Or.inl ⟨by rfl, ?_⟩) (by assumption) ?_
                      rotate_left
                      · (intro w hSw; (try dsimp only at hSw); go_simp; (try with_reducible rfl))
                      try simp only [Act.put, List.setIfInBounds_toArray, List.set_cons_zero, List.set_cons_succ]
                      refine wpAnyH_take (i := 5) (oi := ⟨some 139, _, _, _, _, _⟩) (v := ?_) rfl (by kernel_rfl) (by kernel_rfl) (by kernel_rfl) (fun _ _ _ h => h) (Or.inl ⟨by rfl, ?_⟩) (by assumption) ?_
                      rotate_left
                      · (intro w hSw; (try dsimp only at hSw); go_simp; (try with_reducible rfl))
                      try simp only [Act.put, List.setIfInBounds_toArray, List.set_cons_zero, List.set_cons_succ]
                      refine wpAnyH_take (i := 7) (oi := ⟨some 141, _, _, _, _, _⟩) (v := ?_) rfl (by kernel_rfl) (by kernel_rfl) (by kernel_rfl) (fun _ _ _ h => h) (Or.inl ⟨by rfl, ?_⟩) (by assumption) ?_
                      rotate_left
                      · (intro w hSw; (try dsimp only at hSw); go_simp; (try with_reducible rfl))
                      try simp only [Act.put, List.setIfInBounds_toArray, List.set_cons_zero, List.set_cons_succ]
                      refine wpAnyH_take (i := 10) (oi := ⟨some 144, _, _, _, _, _⟩) (v := ?_) rfl (by kernel_rfl) (by kernel_rfl) (by kernel_rfl) (fun _ _ _ h => h) (Or.inl ⟨by rfl, ?_⟩) (by assumption) ?_
                      rotate_left
                      · (intro w hSw; (try dsimp only at hSw); go_simp; (try with_reducible rfl))
                      try simp only [Act.put, List.setIfInBounds_toArray, List.set_cons_zero, List.set_cons_succ]
                      refine wpAnyH_take (i := 11) (oi := ⟨some 145, _, _, _, _, _⟩) (v := ?_) rfl (by kernel_rfl) (by kernel_rfl) (by kernel_rfl) (fun _ _ _ h => h) (Or.inl ⟨by rfl, ?_⟩) (by assumption) ?_
                      rotate_left
                      · (intro w hSw; (try dsimp only at hSw); go_simp; (try with_reducible rfl))
                      try simp only [Act.put, List.setIfInBounds_toArray, List.set_cons_zero, List.set_cons_succ]
                      refine wpAnyH_take (i := 12) (oi := ⟨some 146, _, _, _, _, _⟩) (v := ?_) rfl (by kernel_rfl) (by kernel_rfl) (by kernel_rfl) (fun _ _ _ h => h) (Or.inl ⟨by rfl, ?_⟩) (by assumption) ?_
                      rotate_left
                      · (intro w hSw; (try dsimp only at hSw); go_simp; (try with_reducible rfl))
                      try simp only [Act.put, List.setIfInBounds_toArray, List.set_cons_zero, List.set_cons_succ]
                      refine wpAnyH_take (i := 13) (oi := ⟨some 147, _, _, _, _, _⟩) (v := ?_) rfl (by kernel_rfl) (by kernel_rfl) (by kernel_rfl) (fun _ _ _ h => h) (Or.inl ⟨by rfl, ?_⟩) (by assumption) ?_
                      rotate_left
                      · (intro w hSw; (try dsimp only at hSw); go_simp; (try with_reducible rfl))
                      try simp only [Act.put, List.setIfInBounds_toArray, List.set_cons_zero, List.set_cons_succ]
                      refine wpAnyH_take (i := 14) (oi := ⟨some 148, _, _, _, _, _⟩) (v := ?_) rfl (by kernel_rfl) (by kernel_rfl) (by kernel_rfl) (fun _ _ _ h => h) (Or.inl ⟨by rfl, ?_⟩) (by assumption) ?_
                      rotate_left
                      · (intro w hSw; (try dsimp only at hSw); go_simp; (try with_reducible rfl))
                      try simp only [Act.put, List.setIfInBounds_toArray, List.set_cons_zero, List.set_cons_succ]
                      refine wpAnyH_ready (rs := [1, 8]) (by kernel_rfl) (by simp) ?_
                      refine AllReadyH.cons (o := ⟨some 135, _, _, _, _, _⟩) rfl (fun K hK => ?_) (AllReadyH.cons (o := ⟨some 142, _, _, _, _, _⟩) rfl (fun K hK => ?_) AllReadyH.nil)
                      · have x3 := cell_of_blk ((HB.out.block _ (lt_of_block HBOB.out)).trans HBOB.out) (j := 0) (u := .slice none 0 0) rfl
                        go_simp
                        refine hK.out _ _ ?_ (fun hHeld => ?_)
                        · exact hHeld
                        clear hK K
                        try simp only [Act.put, List.setIfInBounds_toArray, List.set_cons_zero, List.set_cons_succ]
                        clear x3
                        refine wpAnyH_ready (rs := [6, 8]) (by kernel_rfl) (by simp) ?_
                        refine AllReadyH.cons (o := ⟨some 140, _, _, _, _, _⟩) rfl (fun K hK => ?_) (AllReadyH.cons (o := ⟨some 142, _, _, _, _, _⟩) rfl (fun K hK => ?_) AllReadyH.nil)
                        · refine step_append_src cCells 4 cCells_len (by rfl) _ _ 22 (by rfl) wb.heap.size 36 i0 (.agg #[.string ⟨#[]⟩, .bool false, .slice none 0 0, .slice none 0 0]) 72 Tryz.underlying22 hi0 hz0 hz1 hz2 (by rfl) (by decide) _ _ [] (rows.take J) (by rfl) (by rfl) (World.ownsRow_nil _ _ _ _) (HSA.out.keep HB.out) (HO1.out) (by rw [HTK.out]; show (0 + J) ≤ maxLen; unfold maxLen; omega) (by rw [HTK.out]; show (0 + J) * 72 ≤ 140737488355328; omega) (by exact HB.out.size) ?_
                          intro v1 we ho hg
                          have hba := HB.out.grown hg HB.out.size (fun q hq => by simp [Value.ownBlock] at hq)
                          rw [List.nil_append] at ho
                          refine hK.out _ _ ?_ (fun hHeld => ?_)
                          · exact SK.out _ (below_next HBXB.out hba)
                          clear hK K
                          try simp only [Act.put, List.setIfInBounds_toArray, List.set_cons_zero, List.set_cons_succ]
                          have HOW := Lib.hid ho
                          have HB := Lib.hid hba
                          clear ho hg hba
                          refine wpAnyH_ready (rs := [8]) (by kernel_rfl) (by simp) ?_
                          refine AllReadyH.cons (o := ⟨some 142, _, _, _, _, _⟩) rfl (fun K hK => ?_) AllReadyH.nil
                          go_simp
                          have HL := Lib.hid (SrcAt.lit (f := cCells) we ((Ck.renC nf nt QK m c, .slice pf FN cf, .slice po2 MN co2) : CT) 36 #[.string c.name, .bool c.actor, .slice pf FN cf, .slice po2 MN co2] rfl 1)
                          have hba := below_next HB.out (below_box we (.cells #[.string c.name, .bool c.actor, .slice pf FN cf, .slice po2 MN co2] 36))
                          refine hK.out _ _ ?_ (fun hHeld => ?_)
                          · exact SK.out _ (below_next HBXB.out hba)
                          clear hK K
                          try simp only [Act.put, List.setIfInBounds_toArray, List.set_cons_zero, List.set_cons_succ]
                          have HB := Lib.hid hba
                          clear hba
                          have HOW := Lib.hid (own_below HOW.out (below_box we (.cells #[.string c.name, .bool c.actor, .slice pf FN cf, .slice po2 MN co2] 36)))
                          refine wpAnyH_ready (rs := [9]) (by kernel_rfl) (by simp) ?_
                          refine AllReadyH.cons (o := ⟨some 143, _, _, _, _, _⟩) rfl (fun K hK => ?_) AllReadyH.nil
                          refine step_append_src cCells 4 cCells_len (by rfl) _ _ 22 (by rfl) wb.heap.size 36 i0 (.agg #[.string ⟨#[]⟩, .bool false, .slice none 0 0, .slice none 0 0]) 72 Tryz.underlying22 hi0 hz0 hz1 hz2 (by rfl) (by decide) _ _ (rows.take J) [((Ck.renC nf nt QK m c, .slice pf FN cf, .slice po2 MN co2) : CT)] (by rfl) (by rfl) (HOW.out) (HL.out) (HO2.out) (by rw [HTK.out]; show (J + 1) ≤ maxLen; unfold maxLen; omega) (by rw [HTK.out]; show (J + 1) * 72 ≤ 140737488355328; omega) (by exact HB.out.size) ?_
                          intro v2 wf ho hg
                          have hba := HB.out.grown hg HB.out.size (fun q hq => (own_ge HOW.out hq).1)
                          refine hK.out _ _ ?_ (fun hHeld => ?_)
                          · exact SK.out _ (below_next HBXB.out hba)
                          clear hK K
                          try simp only [Act.put, List.setIfInBounds_toArray, List.set_cons_zero, List.set_cons_succ]
                          have HOX := Lib.hid ho
                          have HB := Lib.hid hba
                          clear ho hg hba
                          refine wpAnyH_ready (rs := [15]) (by kernel_rfl) (by simp) ?_
                          refine AllReadyH.cons (o := ⟨some 149, _, _, _, _, _⟩) rfl (fun K hK => ?_) AllReadyH.nil
                          refine step_append_src cCells 4 cCells_len (by rfl) _ _ 22 (by rfl) wb.heap.size 36 i0 (.agg #[.string ⟨#[]⟩, .bool false, .slice none 0 0, .slice none 0 0]) 72 Tryz.underlying22 hi0 hz0 hz1 hz2 (by rfl) (by decide) _ _ ((rows.take J) ++ [((Ck.renC nf nt QK m c, .slice pf FN cf, .slice po2 MN co2) : CT)]) (rows.drop (J + 1)) (by rfl) (by rfl) (HOX.out) (HSD.out.keep HB.out) (HO3.out) (by rw [List.length_append, HTK.out, HDR.out]; show (J + 1 + (CN - (J + 1))) ≤ maxLen; unfold maxLen; omega) (by rw [List.length_append, HTK.out, HDR.out]; show (J + 1 + (CN - (J + 1))) * 72 ≤ 140737488355328; omega) (by exact HB.out.size) ?_
                          intro v3 wg ho hg
                          have hba := HB.out.grown hg HB.out.size (fun q hq => (own_ge HOX.out hq).1)
                          obtain ⟨po9, co9, rfl⟩ := own_form ho
                          rw [HLEN.out] at ho ⊢
                          refine hK.out _ _ ?_ (fun hHeld => ?_)
                          · exact SK.out _ (below_next HBXB.out hba)
                          clear hK K
                          try simp only [Act.put, List.setIfInBounds_toArray, List.set_cons_zero, List.set_cons_succ]
                          have HOY := Lib.hid ho
                          have HB := Lib.hid hba
                          clear ho hg hba
                          refine wpAnyH_take (i := 16) (oi := ⟨some 150, _, _, _, _, _⟩) (v := ?_) rfl (by kernel_rfl) (by kernel_rfl) (by kernel_rfl) (fun _ _ _ h => h) (Or.inl ⟨by rfl, ?_⟩) (by assumption) ?_
                          rotate_left
                          · (intro w hSw; (try dsimp only at hSw); go_simp; (try with_reducible rfl))
                          try simp only [Act.put, List.setIfInBounds_toArray, List.set_cons_zero, List.set_cons_succ]
                          refine wpAnyH_ready (rs := [17]) (by kernel_rfl) (by simp) ?_
                          refine AllReadyH.cons (o := ⟨none, _, _, _, _, _⟩) rfl (fun K hK => ?_) AllReadyH.nil
                          have x3 := cell_of_blk ((HB.out.block _ (lt_of_block HBOB.out)).trans HBOB.out) (j := 0) (u := .slice none 0 0) rfl
                          have f3 : wg.frozen? ⟨BQ, 0, none⟩ = false := by have h9 := (HB.out.block _ (lt_of_block HBOB.out)).trans HBOB.out; simp [World.frozen?, h9]
                          have HSTo := Lib.hid (QtSt.made HSB2.out HBXB.out HBQ.out HBOB.out HB.out (v := .slice po9 CN co9) (tr := ((rows.take J) ++ [((Ck.renC nf nt QK m c, .slice pf FN cf, .slice po2 MN co2) : CT)]) ++ (rows.drop (J + 1))) (by rw [HLEN.out]; exact HOY.out))
                          go_simp
                          refine hK.out _ _ ?_ (fun hHeld => ?_)
                          · exact SK.out _ HSTo.out.below
                          clear hK K
                          try simp only [Act.put, List.setIfInBounds_toArray, List.set_cons_zero, List.set_cons_succ]
                          refine wpAnyH_done (by kernel_rfl) ?_ _
                          clear hHeld
                          go_wp2_with fail
                          all_goals go_meet
                          all_goals exact ⟨po9, co9, HSTo⟩
                        · go_simp
                          have HL := Lib.hid (SrcAt.lit (f := cCells) wb ((Ck.renC nf nt QK m c, .slice pf FN cf, .slice po2 MN co2) : CT) 36 #[.string c.name, .bool c.actor, .slice pf FN cf, .slice po2 MN co2] rfl 1)
                          have hba := (below_box wb (.cells #[.string c.name, .bool c.actor, .slice pf FN cf, .slice po2 MN co2] 36)).drew
                          refine hK.out _ _ ?_ (fun hHeld => ?_)
                          · exact SK.out _ (below_next HBXB.out hba)
                          clear hK K
                          try simp only [Act.put, List.setIfInBounds_toArray, List.set_cons_zero, List.set_cons_succ]
                          have HB := Lib.hid hba
                          clear hba
                          refine wpAnyH_ready (rs := [6]) (by kernel_rfl) (by simp) ?_
                          refine AllReadyH.cons (o := ⟨some 140, _, _, _, _, _⟩) rfl (fun K hK => ?_) AllReadyH.nil
                          refine step_append_src cCells 4 cCells_len (by rfl) _ _ 22 (by rfl) wb.heap.size 36 i0 (.agg #[.string ⟨#[]⟩, .bool false, .slice none 0 0, .slice none 0 0]) 72 Tryz.underlying22 hi0 hz0 hz1 hz2 (by rfl) (by decide) _ _ [] (rows.take J) (by rfl) (by rfl) (World.ownsRow_nil _ _ _ _) (HSA.out.keep HB.out) (HO1.out) (by rw [HTK.out]; show (0 + J) ≤ maxLen; unfold maxLen; omega) (by rw [HTK.out]; show (0 + J) * 72 ≤ 140737488355328; omega) (by exact HB.out.size) ?_
                          intro v1 we ho hg
                          have hba := HB.out.grown hg HB.out.size (fun q hq => by simp [Value.ownBlock] at hq)
                          rw [List.nil_append] at ho
                          have HL := Lib.hid (HL.out.keep (((Below.refl _ (wb.alloc (.cells #[.string c.name, .bool c.actor, .slice pf FN cf, .slice po2 MN co2] 36))).drew).grown hg (Nat.le_refl _) (fun q hq => by simp [Value.ownBlock] at hq)))
                          refine hK.out _ _ ?_ (fun hHeld => ?_)
                          · exact SK.out _ (below_next HBXB.out hba)
                          clear hK K
                          try simp only [Act.put, List.setIfInBounds_toArray, List.set_cons_zero, List.set_cons_succ]
                          have HOW := Lib.hid ho
                          have HB := Lib.hid hba
                          clear ho hg hba
                          refine wpAnyH_ready (rs := [9]) (by kernel_rfl) (by simp) ?_
                          refine AllReadyH.cons (o := ⟨some 143, _, _, _, _, _⟩) rfl (fun K hK => ?_) AllReadyH.nil
                          refine step_append_src cCells 4 cCells_len (by rfl) _ _ 22 (by rfl) wb.heap.size 36 i0 (.agg #[.string ⟨#[]⟩, .bool false, .slice none 0 0, .slice none 0 0]) 72 Tryz.underlying22 hi0 hz0 hz1 hz2 (by rfl) (by decide) _ _ (rows.take J) [((Ck.renC nf nt QK m c, .slice pf FN cf, .slice po2 MN co2) : CT)] (by rfl) (by rfl) (HOW.out) (HL.out) (HO2.out) (by rw [HTK.out]; show (J + 1) ≤ maxLen; unfold maxLen; omega) (by rw [HTK.out]; show (J + 1) * 72 ≤ 140737488355328; omega) (by exact HB.out.size) ?_
                          intro v2 wf ho hg
                          have hba := HB.out.grown hg HB.out.size (fun q hq => (own_ge HOW.out hq).1)
                          refine hK.out _ _ ?_ (fun hHeld => ?_)
                          · exact SK.out _ (below_next HBXB.out hba)
                          clear hK K
                          try simp only [Act.put, List.setIfInBounds_toArray, List.set_cons_zero, List.set_cons_succ]
                          have HOX := Lib.hid ho
                          have HB := Lib.hid hba
                          clear ho hg hba
                          refine wpAnyH_ready (rs := [15]) (by kernel_rfl) (by simp) ?_
                          refine AllReadyH.cons (o := ⟨some 149, _, _, _, _, _⟩) rfl (fun K hK => ?_) AllReadyH.nil
                          refine step_append_src cCells 4 cCells_len (by rfl) _ _ 22 (by rfl) wb.heap.size 36 i0 (.agg #[.string ⟨#[]⟩, .bool false, .slice none 0 0, .slice none 0 0]) 72 Tryz.underlying22 hi0 hz0 hz1 hz2 (by rfl) (by decide) _ _ ((rows.take J) ++ [((Ck.renC nf nt QK m c, .slice pf FN cf, .slice po2 MN co2) : CT)]) (rows.drop (J + 1)) (by rfl) (by rfl) (HOX.out) (HSD.out.keep HB.out) (HO3.out) (by rw [List.length_append, HTK.out, HDR.out]; show (J + 1 + (CN - (J + 1))) ≤ maxLen; unfold maxLen; omega) (by rw [List.length_append, HTK.out, HDR.out]; show (J + 1 + (CN - (J + 1))) * 72 ≤ 140737488355328; omega) (by exact HB.out.size) ?_
                          intro v3 wg ho hg
                          have hba := HB.out.grown hg HB.out.size (fun q hq => (own_ge HOX.out hq).1)
                          obtain ⟨po9, co9, rfl⟩ := own_form ho
                          rw [HLEN.out] at ho ⊢
                          refine hK.out _ _ ?_ (fun hHeld => ?_)
                          · exact SK.out _ (below_next HBXB.out hba)
                          clear hK K
                          try simp only [Act.put, List.setIfInBounds_toArray, List.set_cons_zero, List.set_cons_succ]
                          have HOY := Lib.hid ho
                          have HB := Lib.hid hba
                          clear ho hg hba
                          refine wpAnyH_take (i := 16) (oi := ⟨some 150, _, _, _, _, _⟩) (v := ?_) rfl (by kernel_rfl) (by kernel_rfl) (by kernel_rfl) (fun _ _ _ h => h) (Or.inl ⟨by rfl, ?_⟩) (by assumption) ?_
                          rotate_left
                          · (intro w hSw; (try dsimp only at hSw); go_simp; (try with_reducible rfl))
                          try simp only [Act.put, List.setIfInBounds_toArray, List.set_cons_zero, List.set_cons_succ]
                          refine wpAnyH_ready (rs := [17]) (by kernel_rfl) (by simp) ?_
                          refine AllReadyH.cons (o := ⟨none, _, _, _, _, _⟩) rfl (fun K hK => ?_) AllReadyH.nil
                          have x3 := cell_of_blk ((HB.out.block _ (lt_of_block HBOB.out)).trans HBOB.out) (j := 0) (u := .slice none 0 0) rfl
                          have f3 : wg.frozen? ⟨BQ, 0, none⟩ = false := by have h9 := (HB.out.block _ (lt_of_block HBOB.out)).trans HBOB.out; simp [World.frozen?, h9]
                          have HSTo := Lib.hid (QtSt.made HSB2.out HBXB.out HBQ.out HBOB.out HB.out (v := .slice po9 CN co9) (tr := ((rows.take J) ++ [((Ck.renC nf nt QK m c, .slice pf FN cf, .slice po2 MN co2) : CT)]) ++ (rows.drop (J + 1))) (by rw [HLEN.out]; exact HOY.out))
                          go_simp
                          refine hK.out _ _ ?_ (fun hHeld => ?_)
                          · exact SK.out _ HSTo.out.below
                          clear hK K
                          try simp only [Act.put, List.setIfInBounds_toArray, List.set_cons_zero, List.set_cons_succ]
                          refine wpAnyH_done (by kernel_rfl) ?_ _
                          clear hHeld
                          go_wp2_with fail
                          all_goals go_meet
                          all_goals exact ⟨po9, co9, HSTo⟩
                      · go_simp
                        have HL := Lib.hid (SrcAt.lit (f := cCells) wb ((Ck.renC nf nt QK m c, .slice pf FN cf, .slice po2 MN co2) : CT) 36 #[.string c.name, .bool c.actor, .slice pf FN cf, .slice po2 MN co2] rfl 1)
                        have hba := (below_box wb (.cells #[.string c.name, .bool c.actor, .slice pf FN cf, .slice po2 MN co2] 36)).drew
                        refine hK.out _ _ ?_ (fun hHeld => ?_)
                        · exact SK.out _ (below_next HBXB.out hba)
                        clear hK K
                        try simp only [Act.put, List.setIfInBounds_toArray, List.set_cons_zero, List.set_cons_succ]
                        have HB := Lib.hid hba
                        clear hba
                        refine wpAnyH_ready (rs := [1]) (by kernel_rfl) (by simp) ?_
                        refine AllReadyH.cons (o := ⟨some 135, _, _, _, _, _⟩) rfl (fun K hK => ?_) AllReadyH.nil
                        have x3 := cell_of_blk ((HB.out.block _ (lt_of_block HBOB.out)).trans HBOB.out) (j := 0) (u := .slice none 0 0) rfl
                        go_simp
                        refine hK.out _ _ ?_ (fun hHeld => ?_)
                        · exact hHeld
                        clear hK K
                        try simp only [Act.put, List.setIfInBounds_toArray, List.set_cons_zero, List.set_cons_succ]
                        clear x3
                        refine wpAnyH_ready (rs := [6]) (by kernel_rfl) (by simp) ?_
                        refine AllReadyH.cons (o := ⟨some 140, _, _, _, _, _⟩) rfl (fun K hK => ?_) AllReadyH.nil
                        refine step_append_src cCells 4 cCells_len (by rfl) _ _ 22 (by rfl) wb.heap.size 36 i0 (.agg #[.string ⟨#[]⟩, .bool false, .slice none 0 0, .slice none 0 0]) 72 Tryz.underlying22 hi0 hz0 hz1 hz2 (by rfl) (by decide) _ _ [] (rows.take J) (by rfl) (by rfl) (World.ownsRow_nil _ _ _ _) (HSA.out.keep HB.out) (HO1.out) (by rw [HTK.out]; show (0 + J) ≤ maxLen; unfold maxLen; omega) (by rw [HTK.out]; show (0 + J) * 72 ≤ 140737488355328; omega) (by exact HB.out.size) ?_
                        intro v1 we ho hg
                        have hba := HB.out.grown hg HB.out.size (fun q hq => by simp [Value.ownBlock] at hq)
                        rw [List.nil_append] at ho
                        have HL := Lib.hid (HL.out.keep (((Below.refl _ (wb.alloc (.cells #[.string c.name, .bool c.actor, .slice pf FN cf, .slice po2 MN co2] 36))).drew).grown hg (Nat.le_refl _) (fun q hq => by simp [Value.ownBlock] at hq)))
                        refine hK.out _ _ ?_ (fun hHeld => ?_)
                        · exact SK.out _ (below_next HBXB.out hba)
                        clear hK K
                        try simp only [Act.put, List.setIfInBounds_toArray, List.set_cons_zero, List.set_cons_succ]
                        have HOW := Lib.hid ho
                        have HB := Lib.hid hba
                        clear ho hg hba
                        refine wpAnyH_ready (rs := [9]) (by kernel_rfl) (by simp) ?_
                        refine AllReadyH.cons (o := ⟨some 143, _, _, _, _, _⟩) rfl (fun K hK => ?_) AllReadyH.nil
                        refine step_append_src cCells 4 cCells_len (by rfl) _ _ 22 (by rfl) wb.heap.size 36 i0 (.agg #[.string ⟨#[]⟩, .bool false, .slice none 0 0, .slice none 0 0]) 72 Tryz.underlying22 hi0 hz0 hz1 hz2 (by rfl) (by decide) _ _ (rows.take J) [((Ck.renC nf nt QK m c, .slice pf FN cf, .slice po2 MN co2) : CT)] (by rfl) (by rfl) (HOW.out) (HL.out) (HO2.out) (by rw [HTK.out]; show (J + 1) ≤ maxLen; unfold maxLen; omega) (by rw [HTK.out]; show (J + 1) * 72 ≤ 140737488355328; omega) (by exact HB.out.size) ?_
                        intro v2 wf ho hg
                        have hba := HB.out.grown hg HB.out.size (fun q hq => (own_ge HOW.out hq).1)
                        refine hK.out _ _ ?_ (fun hHeld => ?_)
                        · exact SK.out _ (below_next HBXB.out hba)
                        clear hK K
                        try simp only [Act.put, List.setIfInBounds_toArray, List.set_cons_zero, List.set_cons_succ]
                        have HOX := Lib.hid ho
                        have HB := Lib.hid hba
                        clear ho hg hba
                        refine wpAnyH_ready (rs := [15]) (by kernel_rfl) (by simp) ?_
                        refine AllReadyH.cons (o := ⟨some 149, _, _, _, _, _⟩) rfl (fun K hK => ?_) AllReadyH.nil
                        refine step_append_src cCells 4 cCells_len (by rfl) _ _ 22 (by rfl) wb.heap.size 36 i0 (.agg #[.string ⟨#[]⟩, .bool false, .slice none 0 0, .slice none 0 0]) 72 Tryz.underlying22 hi0 hz0 hz1 hz2 (by rfl) (by decide) _ _ ((rows.take J) ++ [((Ck.renC nf nt QK m c, .slice pf FN cf, .slice po2 MN co2) : CT)]) (rows.drop (J + 1)) (by rfl) (by rfl) (HOX.out) (HSD.out.keep HB.out) (HO3.out) (by rw [List.length_append, HTK.out, HDR.out]; show (J + 1 + (CN - (J + 1))) ≤ maxLen; unfold maxLen; omega) (by rw [List.length_append, HTK.out, HDR.out]; show (J + 1 + (CN - (J + 1))) * 72 ≤ 140737488355328; omega) (by exact HB.out.size) ?_
                        intro v3 wg ho hg
                        have hba := HB.out.grown hg HB.out.size (fun q hq => (own_ge HOX.out hq).1)
                        obtain ⟨po9, co9, rfl⟩ := own_form ho
                        rw [HLEN.out] at ho ⊢
                        refine hK.out _ _ ?_ (fun hHeld => ?_)
                        · exact SK.out _ (below_next HBXB.out hba)
                        clear hK K
                        try simp only [Act.put, List.setIfInBounds_toArray, List.set_cons_zero, List.set_cons_succ]
                        have HOY := Lib.hid ho
                        have HB := Lib.hid hba
                        clear ho hg hba
                        refine wpAnyH_take (i := 16) (oi := ⟨some 150, _, _, _, _, _⟩) (v := ?_) rfl (by kernel_rfl) (by kernel_rfl) (by kernel_rfl) (fun _ _ _ h => h) (Or.inl ⟨by rfl, ?_⟩) (by assumption) ?_
                        rotate_left
                        · (intro w hSw; (try dsimp only at hSw); go_simp; (try with_reducible rfl))
                        try simp only [Act.put, List.setIfInBounds_toArray, List.set_cons_zero, List.set_cons_succ]
                        refine wpAnyH_ready (rs := [17]) (by kernel_rfl) (by simp) ?_
                        refine AllReadyH.cons (o := ⟨none, _, _, _, _, _⟩) rfl (fun K hK => ?_) AllReadyH.nil
                        have x3 := cell_of_blk ((HB.out.block _ (lt_of_block HBOB.out)).trans HBOB.out) (j := 0) (u := .slice none 0 0) rfl
                        have f3 : wg.frozen? ⟨BQ, 0, none⟩ = false := by have h9 := (HB.out.block _ (lt_of_block HBOB.out)).trans HBOB.out; simp [World.frozen?, h9]
                        have HSTo := Lib.hid (QtSt.made HSB2.out HBXB.out HBQ.out HBOB.out HB.out (v := .slice po9 CN co9) (tr := ((rows.take J) ++ [((Ck.renC nf nt QK m c, .slice pf FN cf, .slice po2 MN co2) : CT)]) ++ (rows.drop (J + 1))) (by rw [HLEN.out]; exact HOY.out))
                        go_simp
                        refine hK.out _ _ ?_ (fun hHeld => ?_)
                        · exact SK.out _ HSTo.out.below
                        clear hK K
                        try simp only [Act.put, List.setIfInBounds_toArray, List.set_cons_zero, List.set_cons_succ]
                        refine wpAnyH_done (by kernel_rfl) ?_ _
                        clear hHeld
                        go_wp2_with fail
                        all_goals go_meet
                        all_goals exact ⟨po9, co9, HSTo⟩
                    case rest =>
                      obtain ⟨po3, co3, HQT⟩ := hcut
                      clear p1 p2 p3 p4 p5 q1 q2 q3 q4 q5
                      obtain ⟨wd, hwd⟩ : ∃ q, q = wc := ⟨_, rfl⟩
                      rw [← hwd] at HQT ⊢
                      clear hwd
                      have HBD := Lib.hid (below_next HBA.out HQT.out.below)
                      have p1 := cell_keep' HQT.out.below C7.out
                      have p2 := cell_of_blk HQT.out.bq (j := 0) (u := .slice po3 CN co3) rfl
                      have hoff := off_of_has HNO.out.1
                      have hsmall := Ck.small_of HOK.out.1 (by decide)
                      have hfitp := Tr.fitP_of HOK.out.1 (by decide)
                      have hck : Hid (Ck.check (cs.set J (Ck.renC nf nt QK m c)) = Ck.check cs) := Ck.check_ren HOK.out.2.2.2.1 HCX.out HMX.out hoff HNO.out.2 HOK.out.2.1
                      have hpl : (m.params.map (Ck.ren nf nt)).length ≤ maxLen := by
                        have h1 := ((hsmall.all c (List.mem_of_getElem? HCX.out)).all m (List.mem_of_getElem? HMX.out)).params
                        rw [List.length_map]
                        unfold maxLen
                        omega
                      have hpz : ∀ s ∈ m.params.map (Ck.ren nf nt), s.size ≤ maxLen := by
                        intro s hs
                        obtain ⟨x, hx, rfl⟩ := List.mem_map.1 hs
                        obtain ⟨q, hq⟩ := List.getElem?_of_mem hx
                        obtain ⟨_, _, _, _, _, hx0⟩ := HSP.out
                        unfold Ck.ren
                        split
                        · exact HTO.out
                        · exact (hx0 q x hq).1
                      have hrp : SlStr w8 (.slice po j co) (m.params.map (Ck.ren nf nt)) := slStr_ownP HST.out.own hpl hpz
                      have hrm : ReadM wa (Ck.renM nf nt m) (.slice po j co) (.slice pvb WN cvb) := by
                        refine ⟨HMNM.out, hrp.keep HOT.out.below, ?_⟩
                        have h1 := HST.out.body.to.keep HOT.out.below
                        rw [← HWR.out] at h1
                        exact h1
                      have hmm := slM_own HOT.out.own (fun x hx => by
                        rcases List.mem_append.1 hx with hx | hx
                        · rcases List.mem_append.1 hx with hx | hx
                          · exact (HMREAD.out x (List.mem_of_mem_take hx)).keep HBA.out
                          · obtain rfl := List.mem_singleton.1 hx; exact hrm
                        · exact (HMREAD.out x (List.mem_of_mem_drop hx)).keep HBA.out)
                      rw [map_set_fst (by rw [HMR.out]; exact HKL.out), HMROWS.out] at hmm
                      have hrc : ReadC wd (Ck.renC nf nt QK m c) (.slice pf FN cf) (.slice po2 MN co2) := ⟨HNM.out, HSF.out.keep HBD.out, hmm.keep HQT.out.below⟩
                      have hcc := slC_own HQT.out.own (fun x hx => by
                        rcases List.mem_append.1 hx with hx | hx
                        · rcases List.mem_append.1 hx with hx | hx
                          · exact (HREAD.out x (List.mem_of_mem_take hx)).keep HBD.out
                          · obtain rfl := List.mem_singleton.1 hx; exact hrc
                        · exact (HREAD.out x (List.mem_of_mem_drop hx)).keep HBD.out)
                      rw [map_set_fst (by rw [HRN.out]; exact HJL.out), HROWS.out] at hcc
                      have hsm2 := Ck.small_ren (f := nf) (t := nt) HCX.out HMX.out hsmall
                      have hft2 := Ck.fit_ren (f := nf) (t := nt) HCX.out HMX.out hfitp
                      have KC : Hid (∀ W, Below wd.heap.size wd W → Calls Tryz.prog 12 #[.agg #[.slice (some ⟨b, oo, none⟩) CN cpv]] W (CheckPost cs W)) := fun W hb => check_any _ cs W (HE.out.keep (below_next HBD.out hb)) (HS.out.keep (below_next HBD.out hb)) hsmall hfitp
                      have KQ : Hid (∀ W, Below wd.heap.size wd W → Calls Tryz.prog 12 #[.agg #[.slice po3 CN co3]] W (CheckPost (cs.set J (Ck.renC nf nt QK m c)) W)) := fun W hb => check_any _ _ W (HE.out.keep (below_next HBD.out hb)) (hcc.keep hb) hsm2 hft2
                      have KS : Hid (∀ W va vb, RdI W va (Ck.check cs) → RdI W vb (Ck.check cs) → Calls Tryz.prog 11 #[va, vb] W fun e w' => e = .returned (.bool true) ∧ Below W.heap.size W w') := fun W va vb h1 h2 => by have := sameErr_any va vb _ _ W h1 h2; rw [decide_eq_true rfl] at this; exact this
                      clear hoff hsmall hfitp hpl hpz hrp hrm hmm hrc hcc hsm2 hft2
                      go_wp2_with fail
                      refine wp_region_held_drew (S := fun w' => w'.cell? ⟨w.heap.size, 0, none⟩ = some (.slice (some ⟨b, oo, none⟩) CN cpv) ∧ w'.cell? ⟨BQ, 0, none⟩ = some (.slice po3 CN co3) ∧ Hid (Below wd.heap.size wd w')) (by kernel_rfl) ?_ (fun hHeld => ?_)
                      · exact ⟨p1, p2, Lib.hid ((Below.refl _ _).drew)⟩
                      refine wpAnyH_take (i := 0) (oi := ⟨some 151, _, _, _, _, _⟩) (v := ?_) rfl (by kernel_rfl) (by kernel_rfl) (by kernel_rfl) (fun _ _ _ h => h) (Or.inl ⟨by rfl, ?_⟩) (by assumption) ?_
                      rotate_left
                      · (intro w hSw; (try dsimp only at hSw); go_simp; (try with_reducible rfl))
                      try simp only [Act.put, List.setIfInBounds_toArray, List.set_cons_zero, List.set_cons_succ]
                      refine wpAnyH_take (i := 2) (oi := ⟨some 153, _, _, _, _, _⟩) (v := ?_) rfl (by kernel_rfl) (by kernel_rfl) (by kernel_rfl) (fun _ _ _ h => h) (Or.inl ⟨by rfl, ?_⟩) (by assumption) ?_
                      rotate_left
                      · (intro w hSw; (try dsimp only at hSw); go_simp; (try with_reducible rfl))
                      try simp only [Act.put, List.setIfInBounds_toArray, List.set_cons_zero, List.set_cons_succ]
                      refine wpAnyH_ready (rs := [1]) (by kernel_rfl) (by simp) ?_
                      refine AllReadyH.cons (o := ⟨some 152, _, _, _, _, _⟩) rfl (fun K hK => ?_) AllReadyH.nil
                      go_simp
                      with_reducible refine (KC.out _ (rn_below (by assumption))).mono ?_
                      rintro e w' ⟨lv, rfl, ho, hb⟩
                      have hr1 := rdI_own ho
                      clear ho
                      go_wp2_with fail
                      refine hK.out _ _ ?_ (fun hHeld => ?_)
                      · exact rn_keep (by assumption) hb
                      clear hK K
                      try simp only [Act.put, List.setIfInBounds_toArray, List.set_cons_zero, List.set_cons_succ]
                      refine wpAnyH_ready (rs := [3]) (by kernel_rfl) (by simp) ?_
                      refine AllReadyH.cons (o := ⟨some 154, _, _, _, _, _⟩) rfl (fun K hK => ?_) AllReadyH.nil
                      go_simp
                      with_reducible refine (KQ.out _ (rn_below (by assumption))).mono ?_
                      rintro e w' ⟨rv, rfl, ho, hb⟩
                      have hr2 := rdI_own ho
                      rw [hck.out] at hr2
                      clear ho
                      have hr1 := hr1.keep hb
                      go_wp2_with fail
                      refine hK.out _ _ ?_ (fun hHeld => ?_)
                      · exact rn_keep (by assumption) hb
                      clear hK K
                      try simp only [Act.put, List.setIfInBounds_toArray, List.set_cons_zero, List.set_cons_succ]
                      refine wpAnyH_ready (rs := [4]) (by kernel_rfl) (by simp) ?_
                      refine AllReadyH.cons (o := ⟨some 155, _, _, _, _, _⟩) rfl (fun K hK => ?_) AllReadyH.nil
                      go_simp
                      with_reducible refine (KS.out _ _ _ hr1 hr2).mono ?_
                      rintro e w' ⟨rfl, hb⟩
                      go_wp2_with fail
                      refine hK.out _ _ ?_ (fun hHeld => ?_)
                      · exact rn_keep (by assumption) hb
                      clear hK K
                      try simp only [Act.put, List.setIfInBounds_toArray, List.set_cons_zero, List.set_cons_succ]
                      refine wpAnyH_take (i := 5) (oi := ⟨some 156, _, _, _, _, _⟩) (v := ?_) rfl (by kernel_rfl) (by kernel_rfl) (by kernel_rfl) (fun _ _ _ h => h) (Or.inl ⟨by rfl, ?_⟩) (by assumption) ?_
                      rotate_left
                      · (intro w hSw; (try dsimp only at hSw); go_simp; (try with_reducible rfl))
                      try simp only [Act.put, List.setIfInBounds_toArray, List.set_cons_zero, List.set_cons_succ]
                      refine wpAnyH_ready (rs := [6]) (by kernel_rfl) (by simp) ?_
                      refine AllReadyH.cons (o := ⟨some 157, _, _, _, _, _⟩) rfl (fun K hK => ?_) AllReadyH.nil
                      go_simp
                      with_reducible refine (KA.out _ (below_next HBD.out (rn_below (by assumption)))).mono ?_
                      rintro e w' ⟨rfl, hb⟩
                      go_wp2_with fail
                      refine hK.out _ _ ?_ (fun hHeld => ?_)
                      · exact rn_keep (by assumption) hb
                      clear hK K
                      try simp only [Act.put, List.setIfInBounds_toArray, List.set_cons_zero, List.set_cons_succ]
                      refine wpAnyH_take (i := 7) (oi := ⟨some 158, _, _, _, _, _⟩) (v := ?_) rfl (by kernel_rfl) (by kernel_rfl) (by kernel_rfl) (fun _ _ _ h => h) (Or.inl ⟨by rfl, ?_⟩) (by assumption) ?_
                      rotate_left
                      · (intro w hSw; (try dsimp only at hSw); go_simp; (try with_reducible rfl))
                      try simp only [Act.put, List.setIfInBounds_toArray, List.set_cons_zero, List.set_cons_succ]
                      refine wpAnyH_take (i := 8) (oi := ⟨some 10, _, _, _, _, _⟩) (v := ?_) rfl (by kernel_rfl) (by kernel_rfl) (by kernel_rfl) (fun _ _ _ h => h) (Or.inl ⟨by rfl, ?_⟩) (by assumption) ?_
                      rotate_left
                      · (intro w hSw; (try dsimp only at hSw); go_simp; (try with_reducible rfl))
                      try simp only [Act.put, List.setIfInBounds_toArray, List.set_cons_zero, List.set_cons_succ]
                      refine wpAnyH_done (by kernel_rfl) ?_ _
                      have HF := Lib.hid (below_next HBD.out (rn_below hHeld))
                      clear hHeld
                      go_wp2_with fail
                      go_ret
                      exact ⟨rfl, HF.out⟩
          · clear C3
            go_wp2_with fail
            refine (KA.out _ HB6.out).mono ?_
            rintro e w9 ⟨rfl, hb9⟩
            go_wp2_with fail
            go_ret
            exact ⟨rfl, below_next HB6.out hb9⟩
    · clear c1
      go_wp2_with fail
      refine (KA.out _ hB3.out).mono ?_
      rintro e w9 ⟨rfl, hb9⟩
      go_wp2_with fail
      go_ret
      exact ⟨rfl, below_next hB3.out hb9⟩
end Go.Proofs.YtdafdbjdnebnfaaGreatDoor
