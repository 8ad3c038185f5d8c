/-
  Several texts in one: CkCheck, CkExplain, CkSame, CkAwake, CkLawBase.
-/
import Derived.Test.YtdafdbjdnebnfaaGreatDoorCkFaults
import Derived.Test.YtdafdbjdnebnfaaGreatDoorTrProgE
import Derived.Deep.QuietTactic
import Derived.BigQuiet
import Derived.Test.YtdafdbjdnebnfaaGreatDoorTrA
import Derived.Laws.Rows
namespace Go.Proofs.YtdafdbjdnebnfaaGreatDoor
open Go.RowKit Go.Maps

/-- the texts of the lines of the table -/
def textOf : Nat → ByteArray
  | 0 => ⟨#[116, 111, 111, 32, 109, 97, 110, 121, 32, 99, 108, 97, 115, 115, 101, 115]⟩
  | 1 => ⟨#[116, 111, 111, 32, 109, 97, 110, 121, 32, 109, 101, 109, 98, 101, 114, 115]⟩
  | 2 => ⟨#[100, 117, 112, 108, 105, 99, 97, 116, 101, 32, 99, 108, 97, 115, 115]⟩
  | 3 => ⟨#[100, 117, 112, 108, 105, 99, 97, 116, 101, 32, 102, 105, 101, 108, 100]⟩
  | 4 => ⟨#[100, 117, 112, 108, 105, 99, 97, 116, 101, 32, 109, 101, 116, 104, 111, 100]⟩
  | 5 => ⟨#[116, 111, 111, 32, 109, 97, 110, 121, 32, 118, 97, 114, 105, 97, 98, 108, 101, 115]⟩
  | 6 => ⟨#[100, 117, 112, 108, 105, 99, 97, 116, 101, 32, 118, 97, 114, 105, 97, 98, 108, 101]⟩
  | 7 => ⟨#[117, 110, 107, 110, 111, 119, 110, 32, 118, 97, 114, 105, 97, 98, 108, 101]⟩
  | 8 => ⟨#[117, 110, 107, 110, 111, 119, 110, 32, 99, 108, 97, 115, 115]⟩
  | 9 => ⟨#[116, 111, 111, 32, 109, 97, 110, 121, 32, 97, 114, 103, 117, 109, 101, 110, 116, 115]⟩
  | 10 => ⟨#[117, 110, 107, 110, 111, 119, 110, 32, 102, 105, 101, 108, 100]⟩
  | 11 => ⟨#[117, 110, 107, 110, 111, 119, 110, 32, 109, 101, 116, 104, 111, 100]⟩
  | 12 => ⟨#[119, 114, 111, 110, 103, 32, 110, 117, 109, 98, 101, 114, 32, 111, 102, 32, 112, 97, 114, 97, 109, 101, 116, 101, 114, 115]⟩
  | _ => ⟨#[]⟩
/-- what the walks of package checker ask of memory -/
structure CkEnv (w : World) : Prop where
  syn : SynEnv w
  codes : ∀ j, j < 13 → w.cell? ⟨0, j, none⟩ = some (.int .i64 (Ck.code j : Nat))
  texts : ∀ j, j < 13 → w.cell? ⟨1, j, none⟩ = some (.string (textOf j))
theorem CkEnv.keep {w w' : World} (h : CkEnv w) (hb : Below w.heap.size w w') : CkEnv w' := ⟨h.syn.keep hb, fun j hj => cell_keep' hb (h.codes j hj), fun j hj => cell_keep' hb (h.texts j hj)⟩
theorem errInfo : (Tryz.prog.info? 50).map (fun i => (i.zero, i.size, i.bytes)) = some (some (.int .i64 0), 1, 8) := by kernel_rfl
def codeCells (l : List Nat) : List Value := l.map fun (n : Nat) => Value.int .i64 (n : Int)
def CheckPost (cs : List Tr.C) (w : World) (e : Ending) (w' : World) : Prop :=
  ∃ v, e = .returned v ∧ w'.ownsRow w.heap.size 50 1 v (Ck.check cs).length (codeCells (Ck.check cs)) ∧ Below w.heap.size w w'
theorem found_lt {f : Nat → Bool} {t : Nat} (h : t ∈ Ck.found f) : t < 13 := by
  unfold Ck.found at h
  have := (List.mem_filter.1 h).1
  simpa using this
theorem rowsM_lt (cs : List Tr.C) (c : Tr.C) : ∀ (l : List Tr.M) (k : Nat), ∀ x ∈ Ck.rowsM cs c l k, x.2 < 13
  | [], k => by intro x hx; cases hx
  | m :: r, k => by
    intro x hx
    rw [Ck.rowsM, List.mem_append] at hx
    rcases hx with hx | hx
    · obtain ⟨t, ht, rfl⟩ := List.mem_map.1 hx; exact found_lt ht
    · exact rowsM_lt cs c r (k + 1) x hx
theorem rowsC_lt (cs : List Tr.C) : ∀ (l : List Tr.C) (i : Nat), ∀ x ∈ Ck.rowsC cs l i, x.2 < 13
  | [], i => by intro x hx; cases hx
  | c :: r, i => by
    intro x hx
    rw [Ck.rowsC, List.mem_append, List.mem_append] at hx
    rcases hx with (hx | hx) | hx
    · obtain ⟨t, ht, rfl⟩ := List.mem_map.1 hx; exact found_lt ht
    · exact rowsM_lt cs c c.methods 0 x hx
    · exact rowsC_lt cs r (i + 1) x hx
theorem check_rows (cs : List Tr.C) (h : Tr.validP cs = true) : Ck.check cs = (Ck.rows cs).map fun x => Ck.code x.2 := by
  unfold Ck.check
  rw [if_pos h]
  have := congrArg (List.map Ck.code) (Ck.rows_lines cs)
  rw [List.map_map, List.map_map] at this
  exact this.symm
/-- element k of a row of faults -/
theorem row_get {w : World} {base : Nat} {v : Value} {l : List (ByteArray × Nat)} (h : w.ownsRow base 56 2 v l.length (rowCells l)) {k : Nat} {x : ByteArray × Nat} (hk : l[k]? = some x) :
    ∃ g cap, v = .slice (some ⟨g, 0, none⟩) l.length cap ∧ g < w.heap.size ∧ l.length ≤ cap ∧ w.cell? ⟨g, k * 2, none⟩ = some (.string x.1) ∧ w.cell? ⟨g, k * 2 + 1, none⟩ = some (.int .i64 (x.2 : Nat)) := by
  have hlt : k < l.length := (List.getElem?_eq_some_iff.1 hk).1
  rcases h.2 with ⟨_, h0⟩ | ⟨g, cap, cur, rfl, _, hg, hnc, _, hcs, htk⟩
  · omega
  · have hrow : (rowCells l)[k * 2]? = some (.string x.1) ∧ (rowCells l)[k * 2 + 1]? = some (.int .i64 (x.2 : Nat)) := by
      clear h htk hnc hcs hlt
      induction l generalizing k with
      | nil => simp at hk
      | cons y r ih =>
        cases k with
        | zero => cases hk; exact ⟨rfl, rfl⟩
        | succ k =>
          have h2 := ih (by simpa using hk)
          have e : rowCells (y :: r) = .string y.1 :: .int .i64 (y.2 : Int) :: rowCells r := rfl
          rw [e, show (k + 1) * 2 = k * 2 + 1 + 1 by omega]
          exact h2
    have at_ : ∀ j u, (rowCells l)[j]? = some u → w.cell? ⟨g, j, none⟩ = some u := by
      intro j u hj
      have hj2 := (List.getElem?_eq_some_iff.1 hj).1
      rw [h.1] at hj2
      rw [← htk, List.getElem?_take_of_lt hj2] at hj
      exact cell_of_blk hg (by rw [← Array.getElem?_toList]; exact hj)
    exact ⟨g, cap, rfl, lt_of_block hg, hnc, at_ _ _ hrow.1, at_ _ _ hrow.2⟩
theorem own_base {w : World} {b b' : Nat} {e : TypeId} {size n : Nat} {v : Value} {xs : List Value} (h : w.ownsRow b e size v n xs) (hb : b' ≤ b) : w.ownsRow b' e size v n xs := by
  refine ⟨h.1, ?_⟩
  rcases h.2 with h | ⟨g, cap, cur, h1, h2, h3⟩
  · exact .inl h
  · exact .inr ⟨g, cap, cur, h1, Nat.le_trans hb h2, h3⟩
theorem own_form {w : World} {b : Nat} {e : TypeId} {size n : Nat} {v : Value} {xs : List Value} (h : w.ownsRow b e size v n xs) : ∃ p cap, v = .slice p n cap := by
  rcases h.2 with ⟨rfl, rfl⟩ | ⟨g, cap, cur, rfl, _⟩
  · exact ⟨_, _, rfl⟩
  · exact ⟨_, _, rfl⟩

set_option maxRecDepth 100000 in
set_option maxHeartbeats 8000000 in
theorem check_any (v : Value) (cs : List Tr.C) (w : World) (hE : CkEnv w) (h : SlC w v cs) (hsm : Ck.Small cs) (hfit : Tr.fitP cs) :
    Calls Tryz.prog 12 #[.agg #[v]] w (CheckPost cs w) := by
  obtain ⟨i0, hi0, hz0, hz1, hz2⟩ := info_parts errInfo
  obtain ⟨pv, cpv, rfl⟩ := h.form
  have hbx := below_box w (.cells #[.slice pv cs.length cpv] 24)
  have hcall := valid_any _ cs _ ((hE.keep hbx).syn) hfit (h.keep hbx)
  have HH := Lib.hid h
  have HE := Lib.hid hE
  cases hv : Tr.validP cs
  · rw [hv] at hcall
    have hck : Hid (Ck.check cs = [1]) := by show _ = _; unfold Ck.check; rw [hv]; rfl
    have HC := Lib.hid hcall
    have HB := Lib.hid hbx
    obtain ⟨CN, hCN⟩ : ∃ N, cs.length = N := ⟨_, rfl⟩
    rw [hCN] at HC HB ⊢
    clear hE h hcall hv hbx hCN HH HE
    go_enter Tryz.func12, Tryz.ntmps12
    go_wp2_with fail
    refine HC.out.mono ?_
    rintro e w2 ⟨rfl, hb2⟩
    go_wp2_with fail
    go_ret
    have hB2 := HB.out.trans (hb2.mono HB.out.size)
    refine ⟨_, rfl, ?_, hB2.alloc hB2.size _⟩
    rw [hck.out]
    exact ⟨rfl, .inr ⟨w2.heap.size, 1, #[.int .i64 1], rfl, hB2.size, (MapKept.heap_alloc w2 _).1, Nat.le_refl _, by decide, rfl, rfl⟩⟩
  · rw [hv] at hcall
    have hck := Lib.hid (check_rows cs hv)
    have HC := Lib.hid hcall
    have HB := Lib.hid hbx
    have KF : Hid (∀ W, Below w.heap.size w W → Calls Tryz.prog 30 #[.agg #[.slice pv cs.length cpv]] W (FaultsPost cs W)) := fun W hb => faults_any _ cs W (h.keep hb) hv hsm
    have hrl := Ck.rowsC_len cs cs 0
    have hcnt := hsm.cnt
    have hlen : (Ck.rows cs).length ≤ 13000000 := by unfold Ck.rows; omega
    obtain ⟨R, hR⟩ : ∃ r, Ck.rows cs = r := ⟨_, rfl⟩
    have hlt13 : Hid (∀ x ∈ R, x.2 < 13) := by rw [← hR]; exact rowsC_lt cs cs 0
    rw [hR] at hlen hck
    have HR := Lib.hid hR
    have c0 := box_cell w #[.slice pv cs.length cpv] 24 0 _ rfl
    obtain ⟨CN, hCN⟩ : ∃ N, cs.length = N := ⟨_, rfl⟩
    rw [hCN] at HC HB KF c0 ⊢
    have C0 := Lib.hid c0
    clear hE h hcall hv hbx hCN HH hsm hfit hrl hcnt hR c0
    go_enter Tryz.func12, Tryz.ntmps12
    go_wp2_with fail
    refine HC.out.mono ?_
    rintro e w2 ⟨rfl, hb2⟩
    have hB2 := Lib.hid (HB.out.trans (hb2.mono HB.out.size))
    have c0 := cell_keep' hb2 C0.out
    clear hb2
    go_wp2_with fail
    refine (KF.out _ hB2.out).mono ?_
    rintro e w3 ⟨fv, rfl, ho3, hb3⟩
    rw [HR.out] at ho3
    obtain ⟨pf, cf, rfl⟩ := own_form ho3
    have hB3 := Lib.hid (hB2.out.trans (hb3.mono hB2.out.size))
    have HO3 := Lib.hid ho3
    have HE3 := Lib.hid (HE.out.keep hB3.out)
    obtain ⟨N, hN⟩ : ∃ N, R.length = N := ⟨_, rfl⟩
    have HN := Lib.hid hN
    rw [hN] at hlen ⊢
    clear hb3 ho3 c0 hN KF
    go_wp2_with fail
    go_loopg [3, 13] N (fun g s3 s13 wr => ∃ k : Nat, s13 = .int .i64 k ∧ k ≤ N ∧ g = N - k ∧ Hid (wr.ownsRow w3.heap.size 50 1 s3 k (codeCells ((R.take k).map fun x => Ck.code x.2))) ∧ Hid (Below w3.heap.size w3 wr))
    case atStart => exact ⟨0, rfl, Nat.zero_le _, rfl, Lib.hid (by simpa [codeCells] using World.ownsRow_nil w3 w3.heap.size 50 1), Lib.hid (Below.refl _ _)⟩
    case round =>
      obtain ⟨k, rfl, hk, rfl, HO, HBR⟩ := hrel
      by_cases hlt : k < N
      · obtain ⟨x, hx⟩ : ∃ x, R[k]? = some x := ⟨_, List.getElem?_eq_getElem (by rw [HN.out]; exact hlt)⟩
        obtain ⟨g3, cap3, e3, hg3, hnc, q0, q1⟩ := row_get HO3.out hx
        injection e3 with e31 e32 e33
        subst e31
        subst e33
        have r0 := cell_keep' HBR.out q0
        have r1 := cell_keep' HBR.out q1
        have hx13 := hlt13.out x (List.mem_of_getElem? hx)
        have hcd := (HE3.out.keep HBR.out).codes x.2 hx13
        have hgl := cell_lt' hcd
        have HX := Lib.hid hx
        have hsz := HBR.out.size
        obtain ⟨nm, t⟩ := x
        simp only [] at r0 r1 hx13 hcd
        clear q0 q1 e32 hx
        go_wp2_with (at_builtin; refine wpList_append_own _ rfl _ _ 27 rfl w3.heap.size 50 i0 (.int .i64 0) 1 8 Tryz.underlying27 hi0 hz0 hz1 hz2 rfl (by decide) _ _ _ rfl ((HO.out.alloc _).alloc _) ⟨wr.heap.size + 1, 0, none⟩ 1 1 [.int .i64 (Ck.code t : Nat)] rfl rfl (news_cells (cs := #[.int .i64 (Ck.code t : Nat)]) rfl (by simp)) (by simp [Value.oneCell']) (by unfold maxLen; omega) (by omega) (by simp <;> omega) ?_; intro v7 w7 ho7 hg7 _)
        go_roundg (N - (k + 1))
        case measure => omega
        case rel =>
          refine ⟨k + 1, by go_num, by omega, rfl, Lib.hid ?_, Lib.hid (((HBR.out.alloc (by omega) _).alloc (by simp <;> omega) _).grown hg7 (by simp <;> omega) fun q hq => (HO.out.lt q hq).1)⟩
          rw [take_get HX.out, List.map_append]
          unfold codeCells at ho7 ⊢
          rw [List.map_append]
          exact ho7
      · obtain rfl : k = N := by omega
        go_wp2_with fail
        go_ret
        refine ⟨_, rfl, ?_, hB3.out.trans (HBR.out.mono hB3.out.size)⟩
        rw [hck.out, List.length_map, HN.out]
        have h9 := HO.out
        rw [List.take_of_length_le (by rw [HN.out]; exact Nat.le_refl _)] at h9
        exact own_base h9 hB3.out.size
end Go.Proofs.YtdafdbjdnebnfaaGreatDoor

namespace Go.Proofs.YtdafdbjdnebnfaaGreatDoor
open Go.RowKit Go.Maps

def lineOf (x : ByteArray × Nat) : ByteArray := x.1 ++ ⟨#[58, 32]⟩ ++ textOf x.2
/-- Explain's lines -/
def explainL (cs : List Tr.C) : List ByteArray := if Tr.validP cs then (Ck.rows cs).map lineOf else [⟨#[105, 110, 118, 97, 108, 105, 100, 32, 112, 114, 111, 103, 114, 97, 109]⟩]
theorem explain_rows (cs : List Tr.C) (h : Tr.validP cs = true) : explainL cs = (Ck.rows cs).map lineOf := by unfold explainL; rw [if_pos h]
def strCellsB (l : List ByteArray) : List Value := l.map Value.string
theorem strInfo2 : (Tryz.prog.info? 9).map (fun i => (i.zero, i.size, i.bytes)) = some (some (.string ⟨#[]⟩), 1, 16) := by kernel_rfl
def ExplainPost (cs : List Tr.C) (w : World) (e : Ending) (w' : World) : Prop :=
  ∃ v, e = .returned v ∧ w'.ownsRow w.heap.size 9 1 v (explainL cs).length (strCellsB (explainL cs)) ∧ Below w.heap.size w w'
theorem textOf_len (t : Nat) : (textOf t).size ≤ 100 := by
  unfold textOf
  split <;> decide
theorem rowsM_names (cs : List Tr.C) (c : Tr.C) (hc : Ck.SmallC c) : ∀ (l : List Tr.M) (k : Nat), (∀ m ∈ l, Ck.SmallM m) → ∀ x ∈ Ck.rowsM cs c l k, x.1.size ≤ 1000
  | [], k, _ => by intro x hx; cases hx
  | m :: r, k, hm => by
    intro x hx
    rw [Ck.rowsM, List.mem_append] at hx
    rcases hx with hx | hx
    · obtain ⟨t, ht, rfl⟩ := List.mem_map.1 hx
      have h1 := hc.name
      have h2 := (hm m (by simp)).name
      show (Ck.mthText c m).size ≤ 1000
      unfold Ck.mthText Ck.clsWord Ck.mthWord
      simp only [ByteArray.size_append]
      have e1 : (⟨#[99, 108, 97, 115, 115, 32]⟩ : ByteArray).size = 6 := rfl
      have e2 : (⟨#[44, 32, 109, 101, 116, 104, 111, 100, 32]⟩ : ByteArray).size = 9 := rfl
      omega
    · exact rowsM_names cs c hc r (k + 1) (fun m hm2 => hm m (by simp [hm2])) x hx
theorem rowsC_names (cs : List Tr.C) : ∀ (l : List Tr.C) (i : Nat), (∀ c ∈ l, Ck.SmallC c) → ∀ x ∈ Ck.rowsC cs l i, x.1.size ≤ 1000
  | [], i, _ => by intro x hx; cases hx
  | c :: r, i, hc => by
    intro x hx
    rw [Ck.rowsC, List.mem_append, List.mem_append] at hx
    have h0 := hc c (by simp)
    rcases hx with (hx | hx) | hx
    · obtain ⟨t, ht, rfl⟩ := List.mem_map.1 hx
      have h1 := h0.name
      show (Ck.clsText c).size ≤ 1000
      unfold Ck.clsText Ck.clsWord
      simp only [ByteArray.size_append]
      have e1 : (⟨#[99, 108, 97, 115, 115, 32]⟩ : ByteArray).size = 6 := rfl
      omega
    · exact rowsM_names cs c h0 c.methods 0 h0.all x hx
    · exact rowsC_names cs r (i + 1) (fun c hc2 => hc c (by simp [hc2])) x hx
theorem rows_names (cs : List Tr.C) (h : Ck.Small cs) : ∀ x ∈ Ck.rows cs, x.1.size ≤ 1000 := rowsC_names cs cs 0 h.all

theorem step_append_str {w : World} {ops : Array Oper} {o : Oper} {a : Act} {K : Act → World → Prop} {Q : Exit → Act → World → Prop} {E : Prop} (hgd : o.guard = none) (s x : Operand)
    (ho : o.op = .call { callee := .builtin .append, args := #[s, x], argTypes := #[31, 31] })
    (base n : Nat) (v : Value) (xs : List Value) (hs : a.eval s = v) (hown : w.ownsRow base 9 1 v n xs) (y : ByteArray) (g cap : Nat) (hx : a.eval x = .slice (some ⟨g, 0, none⟩) 1 cap) (hy : w.cell? ⟨g, 0, none⟩ = some (.string y)) (hn : n ≤ 20000000) (hbase : base ≤ w.heap.size)
    (h : ∀ v' w', w'.ownsRow base 9 1 v' (n + 1) (xs ++ [.string y]) → w.grownBy w' v.ownBlock → K (a.put o.dst v') w') :
    if Region.wanted o (yielded ops a.tmps) = true then Oper.wp Tryz.prog o a w K Q else E := by
  obtain ⟨i0, hi0, hz0, hz1, hz2⟩ := info_parts strInfo2
  have hw : Region.wanted o (yielded ops a.tmps) = true := by simp [Region.wanted, hgd]
  rw [if_pos hw]
  refine wp_append_own w s x 31 ho base 9 i0 (.string ⟨#[]⟩) 1 16 Tryz.underlying31 hi0 hz0 hz1 hz2 rfl (by decide) v n xs hs hown ⟨g, 0, none⟩ 1 cap [.string y] hx rfl (fun j u hj => ?_) (by simp [Value.oneCell']) (by unfold maxLen; omega) (by omega) hbase (fun v' w' a1 a2 _ => h v' w' a1 a2)
  cases j with
  | zero => cases hj; have e0 : (⟨g, 0, none⟩ : Addr).add 0 = ⟨g, 0, none⟩ := by unfold Addr.add; simp
            rw [e0]; exact hy
  | succ j => simp at hj
theorem x4_keep {q0 q1 q2 : Addr} {a0 a1 a2 : Value} {V W W' : World} (h : W.cell? q0 = some a0 ∧ W.cell? q1 = some a1 ∧ W.cell? q2 = some a2 ∧ Hid (Below V.heap.size V W)) (hb : Below W.heap.size W W') :
    W'.cell? q0 = some a0 ∧ W'.cell? q1 = some a1 ∧ W'.cell? q2 = some a2 ∧ Hid (Below V.heap.size V W') :=
  ⟨(grown_of_below (r := none) hb).cell h.1 (by simp), (grown_of_below (r := none) hb).cell h.2.1 (by simp), (grown_of_below (r := none) hb).cell h.2.2.1 (by simp), Lib.hid (below_next h.2.2.2.out hb)⟩
theorem x4_grown {b0 b2 o0 o1 o2 : Nat} {a0 a1 a2 : Value} {V W W' : World} {r : Option Nat} (h : W.cell? ⟨b0, o0, none⟩ = some a0 ∧ W.cell? ⟨b0, o1, none⟩ = some a1 ∧ W.cell? ⟨b2, o2, none⟩ = some a2 ∧ Hid (Below V.heap.size V W)) (hg : W.grownBy W' r) (h0 : some b0 ≠ r) (h2 : some b2 ≠ r) (h3 : ∀ q, r = some q → V.heap.size ≤ q) :
    W'.cell? ⟨b0, o0, none⟩ = some a0 ∧ W'.cell? ⟨b0, o1, none⟩ = some a1 ∧ W'.cell? ⟨b2, o2, none⟩ = some a2 ∧ Hid (Below V.heap.size V W') :=
  ⟨hg.cell h.1 h0, hg.cell h.2.1 h0, hg.cell h.2.2.1 h2, Lib.hid (h.2.2.2.out.grown hg h.2.2.2.out.size h3)⟩

set_option maxRecDepth 100000 in
set_option maxHeartbeats 8000000 in
theorem explain_any (v : Value) (cs : List Tr.C) (w : World) (hE : CkEnv w) (h : SlC w v cs) (hsm : Ck.Small cs) (hfit : Tr.fitP cs) :
    Calls Tryz.prog 15 #[.agg #[v]] w (ExplainPost cs w) := by
  obtain ⟨i0, hi0, hz0, hz1, hz2⟩ := info_parts strInfo2
  obtain ⟨pv, cpv, rfl⟩ := h.form
  have hbx := below_box w (.cells #[.slice pv cs.length cpv] 24)
  have hcall := valid_any _ cs _ ((hE.keep hbx).syn) hfit (h.keep hbx)
  have HH := Lib.hid h
  have HE := Lib.hid hE
  cases hv : Tr.validP cs
  · rw [hv] at hcall
    have hck : Hid (explainL cs = [⟨#[105, 110, 118, 97, 108, 105, 100, 32, 112, 114, 111, 103, 114, 97, 109]⟩]) := by show _ = _; unfold explainL; rw [hv]; rfl
    have HC := Lib.hid hcall
    have HB := Lib.hid hbx
    obtain ⟨CN, hCN⟩ : ∃ N, cs.length = N := ⟨_, rfl⟩
    rw [hCN] at HC HB ⊢
    clear hE h hcall hv hbx hCN HH HE
    go_enter Tryz.func15, Tryz.ntmps15
    go_wp2_with fail
    refine HC.out.mono ?_
    rintro e w2 ⟨rfl, hb2⟩
    go_wp2_with fail
    go_ret
    have hB2 := HB.out.trans (hb2.mono HB.out.size)
    refine ⟨_, rfl, ?_, hB2.alloc hB2.size _⟩
    rw [hck.out]
    exact ⟨rfl, .inr ⟨w2.heap.size, 1, #[.string ⟨#[105, 110, 118, 97, 108, 105, 100, 32, 112, 114, 111, 103, 114, 97, 109]⟩], rfl, hB2.size, (MapKept.heap_alloc w2 _).1, Nat.le_refl _, by decide, rfl, rfl⟩⟩
  · rw [hv] at hcall
    have hck := Lib.hid (explain_rows cs hv)
    have HC := Lib.hid hcall
    have HB := Lib.hid hbx
    have KF : Hid (∀ W, Below w.heap.size w W → Calls Tryz.prog 30 #[.agg #[.slice pv cs.length cpv]] W (FaultsPost cs W)) := fun W hb => faults_any _ cs W (h.keep hb) hv hsm
    have hrl := Ck.rowsC_len cs cs 0
    have hcnt := hsm.cnt
    have hlen : (Ck.rows cs).length ≤ 13000000 := by unfold Ck.rows; omega
    obtain ⟨R, hR⟩ : ∃ r, Ck.rows cs = r := ⟨_, rfl⟩
    have hnm40 : Hid (∀ x ∈ R, x.1.size ≤ 1000) := by rw [← hR]; exact rows_names cs hsm
    have hlt13 : Hid (∀ x ∈ R, x.2 < 13) := by rw [← hR]; exact rowsC_lt cs cs 0
    rw [hR] at hlen hck
    have HR := Lib.hid hR
    have c0 := box_cell w #[.slice pv cs.length cpv] 24 0 _ rfl
    obtain ⟨CN, hCN⟩ : ∃ N, cs.length = N := ⟨_, rfl⟩
    rw [hCN] at HC HB KF c0 ⊢
    have C0 := Lib.hid c0
    clear hE h hcall hv hbx hCN HH hsm hfit hrl hcnt hR c0
    go_enter Tryz.func15, Tryz.ntmps15
    go_wp2_with fail
    refine HC.out.mono ?_
    rintro e w2 ⟨rfl, hb2⟩
    have hB2 := Lib.hid (HB.out.trans (hb2.mono HB.out.size))
    have c0 := cell_keep' hb2 C0.out
    clear hb2
    go_wp2_with fail
    refine (KF.out _ hB2.out).mono ?_
    rintro e w3 ⟨fv, rfl, ho3, hb3⟩
    rw [HR.out] at ho3
    obtain ⟨pf, cf, rfl⟩ := own_form ho3
    have hB3 := Lib.hid (hB2.out.trans (hb3.mono hB2.out.size))
    have HO3 := Lib.hid ho3
    have HE3 := Lib.hid (HE.out.keep hB3.out)
    obtain ⟨N, hN⟩ : ∃ N, R.length = N := ⟨_, rfl⟩
    have HN := Lib.hid hN
    rw [hN] at hlen ⊢
    clear hb3 ho3 c0 hN KF
    go_wp2_with fail
    go_loopg [3, 13] N (fun g s3 s13 wr => ∃ k : Nat, s13 = .int .i64 k ∧ k ≤ N ∧ g = N - k ∧ Hid (wr.ownsRow w3.heap.size 9 1 s3 k (strCellsB ((R.take k).map lineOf))) ∧ Hid (Below w3.heap.size w3 wr))
    case atStart => exact ⟨0, rfl, Nat.zero_le _, rfl, Lib.hid (by simpa [strCellsB] using World.ownsRow_nil w3 w3.heap.size 9 1), Lib.hid (Below.refl _ _)⟩
    case round =>
      obtain ⟨k, rfl, hk, rfl, HO, HBR⟩ := hrel
      by_cases hlt : k < N
      · obtain ⟨x, hx⟩ : ∃ x, R[k]? = some x := ⟨_, List.getElem?_eq_getElem (by rw [HN.out]; exact hlt)⟩
        obtain ⟨g3, cap3, e3, hg3, hnc, q0, q1⟩ := row_get HO3.out hx
        injection e3 with e31 e32 e33
        subst e31
        subst e33
        have r0 := cell_keep' HBR.out q0
        have r1 := cell_keep' HBR.out q1
        have hx13 := hlt13.out x (List.mem_of_getElem? hx)
        have hcd := (HE3.out.keep HBR.out).texts x.2 hx13
        have hgl := cell_lt' hcd
        have HX := Lib.hid hx
        have hsz := HBR.out.size
        obtain ⟨nm, t⟩ := x
        simp only [] at r0 r1 hx13 hcd
        clear q0 q1 e32 hx
        have c0 := box_cell wr #[.string nm, .int .i64 (t : Nat)] 56 0 _ rfl
        have c1 := box_cell wr #[.string nm, .int .i64 (t : Nat)] 56 1 _ rfl
        have hcd2 := cell_keep' (below_box wr (.cells #[.string nm, .int .i64 (t : Nat)] 56)) hcd
        obtain ⟨w4, hw4⟩ : ∃ q, q = wr.alloc (.cells #[.string nm, .int .i64 (t : Nat)] 56) := ⟨_, rfl⟩
        rw [← hw4] at c0 c1 hcd2
        have HO4 := Lib.hid (hw4 ▸ HO.out.alloc _ : w4.ownsRow w3.heap.size 9 1 u3 k _)
        have HB4 : Hid (Below w3.heap.size w3 w4) := Lib.hid (hw4 ▸ HBR.out.alloc hsz _)
        have HW4 := Lib.hid hw4
        obtain ⟨tx, htx⟩ : ∃ q, textOf t = q := ⟨_, rfl⟩
        rw [htx] at hcd2
        have htl : tx.size ≤ 100 := by rw [← htx]; exact textOf_len t
        have hnl : nm.size ≤ 1000 := hnm40.out (nm, t) (List.mem_of_getElem? HX.out)
        have HTX := Lib.hid htx
        have hgT : 1 < w3.heap.size := cell_lt' (HE3.out.texts t hx13)
        clear hw4 hcd hgl htx
        have hgl := cell_lt' hcd2
        have k1 : ¬ 9223372036854775807 < nm.size + 2 := by omega
        have k2 : ¬ 9223372036854775807 < nm.size + 2 + tx.size := by omega
        go_upto_region 7 with fail
        rw [← HW4.out]
        clear HW4 r0 r1
        have hown1 : some wr.heap.size ≠ u3.ownBlock := fun e => by have := (HO.out.lt _ e.symm).2; omega
        have hown2 : some 1 ≠ u3.ownBlock := fun e => by have := (HO.out.lt _ e.symm).1; have := hgT; omega
        have hown3 : ∀ q, u3.ownBlock = some q → w3.heap.size ≤ q := fun q hq => (HO.out.lt q hq).1
        have HO1 := Lib.hid hown1
        have HO2 := Lib.hid hown2
        have HO3 := Lib.hid hown3
        have hz4 := HB4.out.size
        have ht0 : (0 : Int) ≤ (t : Int) := by omega
        have ht1 : (t : Int) < 13 := by omega
        clear hown1 hown2 hown3
        go_region_held3 (fun w' => w'.cell? ⟨wr.heap.size, 0, none⟩ = some (.string nm) ∧ w'.cell? ⟨wr.heap.size, 1, none⟩ = some (.int .i64 (t : Nat)) ∧ w'.cell? ⟨1, t, none⟩ = some (.string tx) ∧ Hid (Below w3.heap.size w3 w')) (first | exact ⟨c0, c1, hcd2, HB4⟩ | exact hS7 | exact x4_keep ⟨c0, c1, hcd2, HB4⟩ (by (repeat' (first | (with_reducible exact Below.refl _ _) | (with_reducible refine Below.drew ?_) | (with_reducible refine Below.alloc ?_ ?_ _))) <;> simp) | go_keep) (first | ((refine step_append_str (by rfl) _ _ (by rfl) w3.heap.size k _ _ (by rfl) (own_below HO4.out (by (repeat' (first | (with_reducible exact Below.refl _ _) | (with_reducible refine Below.drew ?_) | (with_reducible refine Below.alloc ?_ ?_ _))) <;> simp)) (nm ++ ⟨#[58, 32]⟩ ++ tx) _ _ (by rfl) (by first | exact box_cell w4 #[_] _ 0 _ rfl | exact box_cell w4.drew #[_] _ 0 _ rfl) (by omega) (by simp <;> omega) ?_); intro v7 w7 ho7 hg7; have hS7 := x4_grown (x4_keep ⟨c0, c1, hcd2, HB4⟩ (by (repeat' (first | (with_reducible exact Below.refl _ _) | (with_reducible refine Below.drew ?_) | (with_reducible refine Below.alloc ?_ ?_ _))) <;> simp)) hg7 HO1.out HO2.out HO3.out))
        all_goals
          go_wp2_with fail
          go_roundg (N - (k + 1))
          case measure => omega
          case rel =>
            refine ⟨k + 1, by go_num, by omega, rfl, Lib.hid ?_, hS7.2.2.2⟩
            rw [take_get HX.out, List.map_append]
            unfold strCellsB at ho7 ⊢
            rw [List.map_append]
            have e : lineOf (nm, t) = nm ++ ⟨#[58, 32]⟩ ++ tx := by unfold lineOf; rw [HTX.out]
            rw [List.map_cons, List.map_nil, List.map_cons, List.map_nil, e]
            exact ho7
      · obtain rfl : k = N := by omega
        go_wp2_with fail
        go_ret
        refine ⟨_, rfl, ?_, hB3.out.trans (HBR.out.mono hB3.out.size)⟩
        rw [hck.out, List.length_map, HN.out]
        have h9 := HO.out
        rw [List.take_of_length_le (by rw [HN.out]; exact Nat.le_refl _)] at h9
        exact own_base h9 hB3.out.size
end Go.Proofs.YtdafdbjdnebnfaaGreatDoor

namespace Go.Proofs.YtdafdbjdnebnfaaGreatDoor
open Go.RowKit Go.Maps

/-- the slice value reads as a list of numbers -/
def RdI (w : World) (v : Value) (l : List Nat) : Prop :=
  ∃ p c, v = .slice p l.length c ∧ l.length ≤ maxLen ∧ (l ≠ [] → l.length ≤ c ∧ c ≤ maxLen) ∧ ∀ j n, l[j]? = some n → ∃ b o, p = some ⟨b, o, none⟩ ∧ b < w.heap.size ∧ w.cell? ⟨b, o + j, none⟩ = some (.int .i64 (n : Nat))
theorem RdI.keep {w w' : World} {v : Value} {l : List Nat} (h : RdI w v l) (hb : Below w.heap.size w w') : RdI w' v l := by
  obtain ⟨p, c, e, hl, hn, hx⟩ := h
  refine ⟨p, c, e, hl, hn, fun j s hj => ?_⟩
  obtain ⟨b, o, e2, h1, h2⟩ := hx j s hj
  exact ⟨b, o, e2, Nat.lt_of_lt_of_le h1 hb.size, cell_keep' hb h2⟩
theorem rdI_own {w : World} {base : Nat} {v : Value} {l : List Nat} (h : w.ownsRow base 50 1 v l.length (codeCells l)) : RdI w v l := by
  rcases h.2 with ⟨rfl, h0⟩ | ⟨g, cap, cur, rfl, _, hg, hnc, hcm, hcs, htk⟩
  · have hnil : l = [] := List.eq_nil_of_length_eq_zero h0
    subst hnil
    exact ⟨_, _, rfl, Nat.zero_le _, fun h => absurd rfl h, fun j n hj => by simp at hj⟩
  · refine ⟨_, _, rfl, by omega, fun _ => ⟨hnc, hcm⟩, fun j n hj => ⟨g, 0, rfl, lt_of_block hg, ?_⟩⟩
    have hjl := (List.getElem?_eq_some_iff.1 hj).1
    have h2 : (codeCells l)[j]? = some (.int .i64 (n : Nat)) := by unfold codeCells; rw [List.getElem?_map, hj]; rfl
    rw [← htk, List.getElem?_take_of_lt (by omega)] at h2
    rw [Nat.zero_add]
    exact cell_of_blk hg (by rw [← Array.getElem?_toList]; exact h2)
theorem slStr_own {w : World} {base : Nat} {v : Value} {l : List ByteArray} (h : w.ownsRow base 9 1 v l.length (strCellsB l)) (hs : ∀ s ∈ l, s.size ≤ maxLen) : SlStr w v l := by
  rcases h.2 with ⟨rfl, h0⟩ | ⟨g, cap, cur, rfl, _, hg, hnc, hcm, hcs, htk⟩
  · have hnil : l = [] := List.eq_nil_of_length_eq_zero h0
    subst hnil
    exact ⟨_, _, rfl, Nat.zero_le _, fun h => absurd rfl h, fun j n hj => by simp at hj⟩
  · refine ⟨_, _, rfl, by omega, fun _ => ⟨hnc, hcm⟩, fun j n hj => ⟨hs n (List.mem_of_getElem? hj), g, 0, rfl, lt_of_block hg, ?_⟩⟩
    have hjl := (List.getElem?_eq_some_iff.1 hj).1
    have h2 : (strCellsB l)[j]? = some (.string n) := by unfold strCellsB; rw [List.getElem?_map, hj]; rfl
    rw [← htk, List.getElem?_take_of_lt (by omega)] at h2
    rw [Nat.zero_add]
    exact cell_of_blk hg (by rw [← Array.getElem?_toList]; exact h2)
theorem ext_get {α : Type} {a b : List α} {n : Nat} (ha : a.length = n) (hb : b.length = n) (h : ∀ j, j < n → a[j]? = b[j]?) : a = b := by
  apply List.ext_getElem?
  intro j
  by_cases hj : j < n
  · exact h j hj
  · rw [List.getElem?_eq_none (by omega), List.getElem?_eq_none (by omega)]

set_option maxRecDepth 100000 in
set_option maxHeartbeats 2000000 in
theorem sameErr_any (va vb : Value) (la lb : List Nat) (w : World) (ha : RdI w va la) (hb : RdI w vb lb) :
    Calls Tryz.prog 11 #[va, vb] w fun e w' => e = .returned (.bool (decide (la = lb))) ∧ Below w.heap.size w w' := by
  obtain ⟨pa, ca, rfl, hla, hna, hxa⟩ := ha
  obtain ⟨pb, cb, rfl, hlb, hnb, hxb⟩ := hb
  unfold maxLen at hla hlb
  by_cases hne : la.length = lb.length
  · obtain ⟨n, hn⟩ : ∃ n, la.length = n := ⟨_, rfl⟩
    have hn2 : lb.length = n := by omega
    rw [hn] at hla ⊢
    rw [hn2]
    have HXA := Lib.hid hxa
    have HXB := Lib.hid hxb
    have HN := Lib.hid hn
    have HN2 := Lib.hid hn2
    clear hxa hxb hna hnb hne hn hn2 hlb
    go_enter Tryz.func11, Tryz.ntmps11
    go_wp2
    go_loopw [5] (fun i wr => ∃ k : Nat, k ≤ n ∧ i = .int .i64 k ∧ (∀ j, j < k → la[j]? = lb[j]?) ∧ Hid (Below w.heap.size w wr)) (fun i _ => n - (intOf i).toNat)
    case atStart => exact ⟨0, Nat.zero_le _, rfl, fun j hj => by omega, Lib.hid (Below.refl _ _)⟩
    case round =>
      obtain ⟨k, hk, rfl, hsame, HBR⟩ := hrel
      have HS := Lib.hid hsame
      clear hsame
      by_cases hlt : k < n
      · obtain ⟨x, hx⟩ : ∃ t, la[k]? = some t := ⟨_, List.getElem?_eq_getElem (by rw [HN.out]; exact hlt)⟩
        obtain ⟨y, hy⟩ : ∃ u, lb[k]? = some u := ⟨_, List.getElem?_eq_getElem (by rw [HN2.out]; exact hlt)⟩
        obtain ⟨b1, o1, rfl, _, x1⟩ := HXA.out k x hx
        obtain ⟨b2, o2, rfl, _, y1⟩ := HXB.out k y hy
        have z1 := cell_keep' HBR.out x1
        have z2 := cell_keep' HBR.out y1
        have HX := Lib.hid hx
        have HY := Lib.hid hy
        have hk0 : (0 : Int) ≤ (k : Int) := by omega
        have hk1 : (k : Int) < (n : Int) := by omega
        clear hx hy x1 y1
        by_cases e : x = y
        · have hq := (show ((x : Int) != (y : Int)) = false by rw [e]; simp)
          have HE := Lib.hid e
          clear e
          go_wp2
          go_quiet (fail)
          clear hq
          have HB2 : Hid (Below w.heap.size w (wr.drewN nq)) := Lib.hid (below_drewN HBR.out _)
          generalize wr.drewN nq = wr2 at HB2 ⊢
          go_wp2
          go_roundw
          case rel =>
            refine ⟨k + 1, by omega, by go_num, fun j hj => ?_, HB2⟩
            by_cases e : j = k
            · rw [e, HX.out, HY.out, HE.out]
            · exact HS.out j (by omega)
          case measure => simp [intOf]; omega
        · have hq := (show ((x : Int) != (y : Int)) = true by rw [bne_iff_ne]; omega)
          have HE := Lib.hid e
          clear e
          go_wp2
          go_quiet (fail)
          clear hq
          have HB2 : Hid (Below w.heap.size w (wr.drewN nq)) := Lib.hid (below_drewN HBR.out _)
          generalize wr.drewN nq = wr2 at HB2 ⊢
          go_wp2
          go_ret
          refine ⟨ret_bool (decide_eq_false fun e => HE.out ?_).symm, HB2.out⟩
          have h5 := HX.out
          rw [e, HY.out] at h5
          exact (Option.some.inj h5).symm
      · go_wp2
        go_ret
        exact ⟨ret_bool (decide_eq_true (ext_get (n := n) HN.out HN2.out fun j hj => HS.out j (by omega))).symm, HBR.out⟩
  · have h : ((la.length : Int) != (lb.length : Int)) = true := by rw [bne_iff_ne]; omega
    have HNE := Lib.hid hne
    clear hxa hxb hna hnb hne
    go_enter Tryz.func11, Tryz.ntmps11
    go_wp2
    go_ret
    exact ⟨ret_bool (decide_eq_false fun e => HNE.out (by rw [e])).symm, Below.refl _ _⟩

set_option maxRecDepth 100000 in
set_option maxHeartbeats 2000000 in
theorem sameLines_any (va vb : Value) (la lb : List ByteArray) (w : World) (ha : SlStr w va la) (hb : SlStr w vb lb) :
    Calls Tryz.prog 16 #[va, vb] w fun e w' => e = .returned (.bool (decide (la = lb))) ∧ Below w.heap.size w w' := by
  obtain ⟨pa, ca, rfl, hla, hna, hxa⟩ := ha
  obtain ⟨pb, cb, rfl, hlb, hnb, hxb⟩ := hb
  unfold maxLen at hla hlb
  by_cases hne : la.length = lb.length
  · obtain ⟨n, hn⟩ : ∃ n, la.length = n := ⟨_, rfl⟩
    have hn2 : lb.length = n := by omega
    rw [hn] at hla ⊢
    rw [hn2]
    have HXA := Lib.hid hxa
    have HXB := Lib.hid hxb
    have HN := Lib.hid hn
    have HN2 := Lib.hid hn2
    clear hxa hxb hna hnb hne hn hn2 hlb
    go_enter Tryz.func16, Tryz.ntmps16
    go_wp2
    go_loopw [5] (fun i wr => ∃ k : Nat, k ≤ n ∧ i = .int .i64 k ∧ (∀ j, j < k → la[j]? = lb[j]?) ∧ Hid (Below w.heap.size w wr)) (fun i _ => n - (intOf i).toNat)
    case atStart => exact ⟨0, Nat.zero_le _, rfl, fun j hj => by omega, Lib.hid (Below.refl _ _)⟩
    case round =>
      obtain ⟨k, hk, rfl, hsame, HBR⟩ := hrel
      have HS := Lib.hid hsame
      clear hsame
      by_cases hlt : k < n
      · obtain ⟨x, hx⟩ : ∃ t, la[k]? = some t := ⟨_, List.getElem?_eq_getElem (by rw [HN.out]; exact hlt)⟩
        obtain ⟨y, hy⟩ : ∃ u, lb[k]? = some u := ⟨_, List.getElem?_eq_getElem (by rw [HN2.out]; exact hlt)⟩
        obtain ⟨_, b1, o1, rfl, _, x1⟩ := HXA.out k x hx
        obtain ⟨_, b2, o2, rfl, _, y1⟩ := HXB.out k y hy
        have z1 := cell_keep' HBR.out x1
        have z2 := cell_keep' HBR.out y1
        have HX := Lib.hid hx
        have HY := Lib.hid hy
        have hk0 : (0 : Int) ≤ (k : Int) := by omega
        have hk1 : (k : Int) < (n : Int) := by omega
        clear hx hy x1 y1
        by_cases e : x = y
        · have hq := (show (x.toList == y.toList) = true by rw [e]; simp)
          have HE := Lib.hid e
          clear e
          go_wp2
          go_quiet (fail)
          clear hq
          have HB2 : Hid (Below w.heap.size w (wr.drewN nq)) := Lib.hid (below_drewN HBR.out _)
          generalize wr.drewN nq = wr2 at HB2 ⊢
          go_wp2
          go_roundw
          case rel =>
            refine ⟨k + 1, by omega, by go_num, fun j hj => ?_, HB2⟩
            by_cases e : j = k
            · rw [e, HX.out, HY.out, HE.out]
            · exact HS.out j (by omega)
          case measure => simp [intOf]; omega
        · have hq := (show (x.toList == y.toList) = false by rw [bytes_beq, decide_eq_false e])
          have HE := Lib.hid e
          clear e
          go_wp2
          go_quiet (fail)
          clear hq
          have HB2 : Hid (Below w.heap.size w (wr.drewN nq)) := Lib.hid (below_drewN HBR.out _)
          generalize wr.drewN nq = wr2 at HB2 ⊢
          go_wp2
          go_ret
          refine ⟨ret_bool (decide_eq_false fun e => HE.out ?_).symm, HB2.out⟩
          have h5 := HX.out
          rw [e, HY.out] at h5
          exact (Option.some.inj h5).symm
      · go_wp2
        go_ret
        exact ⟨ret_bool (decide_eq_true (ext_get (n := n) HN.out HN2.out fun j hj => HS.out j (by omega))).symm, HBR.out⟩
  · have h : ((la.length : Int) != (lb.length : Int)) = true := by rw [bne_iff_ne]; omega
    have HNE := Lib.hid hne
    clear hxa hxb hna hnb hne
    go_enter Tryz.func16, Tryz.ntmps16
    go_wp2
    go_ret
    exact ⟨ret_bool (decide_eq_false fun e => HNE.out (by rw [e])).symm, Below.refl _ _⟩

end Go.Proofs.YtdafdbjdnebnfaaGreatDoor

namespace Go.Proofs.YtdafdbjdnebnfaaGreatDoor
open Go.RowKit Go.Maps

set_option maxRecDepth 100000 in
set_option maxHeartbeats 1000000 in
theorem lawFew_any (v : Value) (cs : List Tr.C) (w : World) (g c : Nat) (hc : w.cell? ⟨g, 0, none⟩ = some v) (h : SlC w v cs) :
    Calls Tryz.prog 10 #[.slice (some ⟨g, 0, none⟩) 1 c] w fun e w' => e = .returned (.bool (Tr.fewP cs 300)) ∧ Below w.heap.size w w' := by
  obtain ⟨pv, cpv, rfl⟩ := h.form
  have KF : Hid (∀ W, Below w.heap.size w W → Calls Tryz.prog 28 #[.agg #[.slice pv cs.length cpv], .int .i64 300] W fun e w' => e = .returned (.bool (Tr.fewP cs 300)) ∧ Below W.heap.size W w') := fun W hb => few_any _ cs 300 W (h.keep hb) (by omega) (by omega)
  have HC := Lib.hid hc
  obtain ⟨CN, hCN⟩ : ∃ N, cs.length = N := ⟨_, rfl⟩
  rw [hCN] at KF HC
  obtain ⟨q, hq⟩ : ∃ q, Tr.fewP cs 300 = q := ⟨_, rfl⟩
  rw [hq] at KF ⊢
  clear h hc hCN hq
  go_enter Tryz.func10, Tryz.ntmps10
  go_wp2
  go_loopw [7] (fun s7 wr => ∃ k : Nat, s7 = .int .i64 k ∧ k ≤ 1 ∧ Hid (k = 1 → q = true) ∧ Hid (Below w.heap.size w wr)) (fun s7 _ => 1 - (intOf s7).toNat)
  case atStart => exact ⟨0, rfl, by omega, Lib.hid (fun h => absurd h (by decide)), Lib.hid (Below.refl _ _)⟩
  case round =>
    obtain ⟨k, rfl, hk, HQ, HBR⟩ := hrel
    by_cases h0 : k = 0
    · subst h0
      have x0 := cell_keep' HBR.out HC.out
      have hbx := below_box wr (.cells #[.slice pv CN cpv] 24)
      have HK := Lib.hid (KF.out _ (below_next HBR.out hbx))
      have HB2 := Lib.hid (below_next HBR.out hbx)
      clear hbx
      cases q
      · go_wp2_with fail
        refine HK.out.mono ?_
        rintro e w2 ⟨rfl, hb2⟩
        go_wp2_with fail
        go_ret
        exact ⟨rfl, below_next HB2.out hb2⟩
      · go_wp2_with fail
        refine HK.out.mono ?_
        rintro e w2 ⟨rfl, hb2⟩
        go_wp2_with fail
        go_roundw
        case rel => exact ⟨1, by go_num, by omega, Lib.hid (fun _ => by trivial), Lib.hid (below_next HB2.out hb2)⟩
        case measure => simp [intOf]
    · obtain rfl : k = 1 := by omega
      have hqt := HQ.out rfl
      subst hqt
      clear h0
      go_wp2
      go_ret
      exact ⟨rfl, HBR.out⟩

/-! ### the example -/
set_option maxRecDepth 100000 in
set_option maxHeartbeats 1000000 in
theorem ex1_any (s : ByteArray) (w : World) :
    Calls Tryz.prog 65 #[.string s] w fun e w' => e = .returned (.agg #[.int .i64 3, .int .i64 0, .int .i64 0, .string s, .bool false, .slice none 0 0]) ∧ w' = w.alloc (.cells #[.int .i64 3, .int .i64 0, .int .i64 0, .string s, .bool false, .slice none 0 0] 78) := by
  go_enter Tryz.func65, Tryz.ntmps65
  go_wp2
  exact bodyPost_ret (v := .agg #[.int .i64 3, .int .i64 0, .int .i64 0, .string s, .bool false, .slice none 0 0]) (by simp [results, Tryz.results65, go_sem]) rfl ⟨rfl, rfl⟩

namespace Ck
open Tr
def exA : E := .mk 3 0 0 ⟨#[97]⟩ false []
def exC : E := .mk 3 0 0 ⟨#[99]⟩ false []
def exI : E := .mk 0 0 1 ⟨#[]⟩ false []
def exT : E := .mk 2 0 0 ⟨#[]⟩ false []
def exN : E := .mk 5 0 0 ⟨#[66]⟩ false [exI]
def exS0 : S := .mk 0 ⟨#[98]⟩ [exA] [] []
def exS1 : S := .mk 6 ⟨#[]⟩ [exC] [] []
def exS2 : S := .mk 2 ⟨#[121]⟩ [exT, exN] [] []
def exM : M := ⟨⟨#[102]⟩, [⟨#[97]⟩], [exS0, exS1, exS2]⟩
def exCls : C := ⟨⟨#[65]⟩, true, [⟨#[120]⟩], [exM]⟩
/-- the chapter's example -/
def exCs : List C := [exCls]
end Ck
/-- the example's world, N the size of the heap -/
def exW (w : World) (N : Nat) : World := (((((((((((w.alloc (.cells #[.slice (some ⟨N + 11, 0, none⟩) 1 1] 24)).alloc (.cells #[.int .i64 3, .int .i64 0, .int .i64 0, .string ⟨#[97]⟩, .bool false, .slice none 0 0] 78)).alloc (.cells #[.int .i64 3, .int .i64 0, .int .i64 0, .string ⟨#[97]⟩, .bool false, .slice none 0 0] 78)).alloc (.cells #[.int .i64 3, .int .i64 0, .int .i64 0, .string ⟨#[99]⟩, .bool false, .slice none 0 0] 78)).alloc (.cells #[.int .i64 3, .int .i64 0, .int .i64 0, .string ⟨#[99]⟩, .bool false, .slice none 0 0] 78)).alloc (.cells #[.int .i64 0, .int .i64 0, .int .i64 1, .string ⟨#[]⟩, .bool false, .slice none 0 0] 78)).alloc (.cells #[.int .i64 2, .int .i64 0, .int .i64 0, .string ⟨#[]⟩, .bool false, .slice none 0 0, .int .i64 5, .int .i64 0, .int .i64 0, .string ⟨#[66]⟩, .bool false, .slice (some ⟨N + 5, 0, none⟩) 1 1] 78)).alloc (.cells #[.int .i64 0, .string ⟨#[98]⟩, .slice (some ⟨N + 2, 0, none⟩) 1 1, .slice none 0 0, .slice none 0 0, .int .i64 6, .string ⟨#[]⟩, .slice (some ⟨N + 4, 0, none⟩) 1 1, .slice none 0 0, .slice none 0 0, .int .i64 2, .string ⟨#[121]⟩, .slice (some ⟨N + 6, 0, none⟩) 2 2, .slice none 0 0, .slice none 0 0] 75)).alloc (.cells #[.string ⟨#[120]⟩] 9)).alloc (.cells #[.string ⟨#[97]⟩] 9)).alloc (.cells #[.string ⟨#[102]⟩, .slice (some ⟨N + 9, 0, none⟩) 1 1, .slice (some ⟨N + 7, 0, none⟩) 3 3] 41)).alloc (.cells #[.string ⟨#[65]⟩, .bool true, .slice (some ⟨N + 8, 0, none⟩) 1 1, .slice (some ⟨N + 10, 0, none⟩) 1 1] 36)
instance decI64 (n : Int) : Decidable (Tr.I64 n) := by unfold Tr.I64; infer_instance
theorem new_at {w : World} {o : Obj} {n : Nat} (h : w.heap.size = n) : (w.alloc o).heap[n]? = some o := by subst h; exact (MapKept.heap_alloc w o).1
theorem exW_below (w : World) (N : Nat) : Below w.heap.size w (exW w N) := by
  unfold exW
  repeat (first | exact Below.refl _ _ | refine Below.alloc ?_ (by simp <;> omega) _)
theorem exW_0 (w : World) : (exW w w.heap.size).heap[w.heap.size + 0]? = some (.cells (#[.slice (some ⟨w.heap.size + 11, 0, none⟩) 1 1]) 24 (0, 0)) := by
  unfold exW
  repeat (refine (Below.heap_alloc _ _ _ (by simp only [World.size_alloc]; omega)).trans ?_)
  exact new_at (by simp)
theorem exW_1 (w : World) : (exW w w.heap.size).heap[w.heap.size + 1]? = some (.cells (#[.int .i64 3, .int .i64 0, .int .i64 0, .string ⟨#[97]⟩, .bool false, .slice none 0 0]) 78 (0, 0)) := by
  unfold exW
  repeat (refine (Below.heap_alloc _ _ _ (by simp only [World.size_alloc]; omega)).trans ?_)
  exact new_at (by simp)
theorem exW_2 (w : World) : (exW w w.heap.size).heap[w.heap.size + 2]? = some (.cells (#[.int .i64 3, .int .i64 0, .int .i64 0, .string ⟨#[97]⟩, .bool false, .slice none 0 0]) 78 (0, 0)) := by
  unfold exW
  repeat (refine (Below.heap_alloc _ _ _ (by simp only [World.size_alloc]; omega)).trans ?_)
  exact new_at (by simp)
theorem exW_3 (w : World) : (exW w w.heap.size).heap[w.heap.size + 3]? = some (.cells (#[.int .i64 3, .int .i64 0, .int .i64 0, .string ⟨#[99]⟩, .bool false, .slice none 0 0]) 78 (0, 0)) := by
  unfold exW
  repeat (refine (Below.heap_alloc _ _ _ (by simp only [World.size_alloc]; omega)).trans ?_)
  exact new_at (by simp)
theorem exW_4 (w : World) : (exW w w.heap.size).heap[w.heap.size + 4]? = some (.cells (#[.int .i64 3, .int .i64 0, .int .i64 0, .string ⟨#[99]⟩, .bool false, .slice none 0 0]) 78 (0, 0)) := by
  unfold exW
  repeat (refine (Below.heap_alloc _ _ _ (by simp only [World.size_alloc]; omega)).trans ?_)
  exact new_at (by simp)
theorem exW_5 (w : World) : (exW w w.heap.size).heap[w.heap.size + 5]? = some (.cells (#[.int .i64 0, .int .i64 0, .int .i64 1, .string ⟨#[]⟩, .bool false, .slice none 0 0]) 78 (0, 0)) := by
  unfold exW
  repeat (refine (Below.heap_alloc _ _ _ (by simp only [World.size_alloc]; omega)).trans ?_)
  exact new_at (by simp)
theorem exW_6 (w : World) : (exW w w.heap.size).heap[w.heap.size + 6]? = some (.cells (#[.int .i64 2, .int .i64 0, .int .i64 0, .string ⟨#[]⟩, .bool false, .slice none 0 0, .int .i64 5, .int .i64 0, .int .i64 0, .string ⟨#[66]⟩, .bool false, .slice (some ⟨w.heap.size + 5, 0, none⟩) 1 1]) 78 (0, 0)) := by
  unfold exW
  repeat (refine (Below.heap_alloc _ _ _ (by simp only [World.size_alloc]; omega)).trans ?_)
  exact new_at (by simp)
theorem exW_7 (w : World) : (exW w w.heap.size).heap[w.heap.size + 7]? = some (.cells (#[.int .i64 0, .string ⟨#[98]⟩, .slice (some ⟨w.heap.size + 2, 0, none⟩) 1 1, .slice none 0 0, .slice none 0 0, .int .i64 6, .string ⟨#[]⟩, .slice (some ⟨w.heap.size + 4, 0, none⟩) 1 1, .slice none 0 0, .slice none 0 0, .int .i64 2, .string ⟨#[121]⟩, .slice (some ⟨w.heap.size + 6, 0, none⟩) 2 2, .slice none 0 0, .slice none 0 0]) 75 (0, 0)) := by
  unfold exW
  repeat (refine (Below.heap_alloc _ _ _ (by simp only [World.size_alloc]; omega)).trans ?_)
  exact new_at (by simp)
theorem exW_8 (w : World) : (exW w w.heap.size).heap[w.heap.size + 8]? = some (.cells (#[.string ⟨#[120]⟩]) 9 (0, 0)) := by
  unfold exW
  repeat (refine (Below.heap_alloc _ _ _ (by simp only [World.size_alloc]; omega)).trans ?_)
  exact new_at (by simp)
theorem exW_9 (w : World) : (exW w w.heap.size).heap[w.heap.size + 9]? = some (.cells (#[.string ⟨#[97]⟩]) 9 (0, 0)) := by
  unfold exW
  repeat (refine (Below.heap_alloc _ _ _ (by simp only [World.size_alloc]; omega)).trans ?_)
  exact new_at (by simp)
theorem exW_10 (w : World) : (exW w w.heap.size).heap[w.heap.size + 10]? = some (.cells (#[.string ⟨#[102]⟩, .slice (some ⟨w.heap.size + 9, 0, none⟩) 1 1, .slice (some ⟨w.heap.size + 7, 0, none⟩) 3 3]) 41 (0, 0)) := by
  unfold exW
  repeat (refine (Below.heap_alloc _ _ _ (by simp only [World.size_alloc]; omega)).trans ?_)
  exact new_at (by simp)
theorem exW_11 (w : World) : (exW w w.heap.size).heap[w.heap.size + 11]? = some (.cells (#[.string ⟨#[65]⟩, .bool true, .slice (some ⟨w.heap.size + 8, 0, none⟩) 1 1, .slice (some ⟨w.heap.size + 10, 0, none⟩) 1 1]) 36 (0, 0)) := by
  unfold exW
  repeat (refine (Below.heap_alloc _ _ _ (by simp only [World.size_alloc]; omega)).trans ?_)
  exact new_at (by simp)
theorem exE2 (w : World) : SlE (exW w w.heap.size) (.slice (some ⟨w.heap.size + 2, 0, none⟩) 1 1) [Ck.exA] := by
  have h := exW_2 w
  refine SlE.row (w.heap.size + 2) 0 1 [Ck.exA] (fun j => if j = 0 then .slice none 0 0 else .slice none 0 0) (Nat.le_refl _) (by decide) (fun j e hj => ?_) (fun j e hj => ?_)
  · match j, hj with
    | 0, hj => cases hj; exact ⟨⟨cell_of_blk h rfl, cell_of_blk h rfl, cell_of_blk h rfl, cell_of_blk h rfl, cell_of_blk h rfl, cell_of_blk h rfl⟩, ⟨by decide, by decide, by decide, by decide⟩⟩
    | j + 1, hj => simp at hj
  · match j, hj with
    | 0, hj => cases hj; exact .nil _ _
    | j + 1, hj => simp at hj
theorem exE4 (w : World) : SlE (exW w w.heap.size) (.slice (some ⟨w.heap.size + 4, 0, none⟩) 1 1) [Ck.exC] := by
  have h := exW_4 w
  refine SlE.row (w.heap.size + 4) 0 1 [Ck.exC] (fun j => if j = 0 then .slice none 0 0 else .slice none 0 0) (Nat.le_refl _) (by decide) (fun j e hj => ?_) (fun j e hj => ?_)
  · match j, hj with
    | 0, hj => cases hj; exact ⟨⟨cell_of_blk h rfl, cell_of_blk h rfl, cell_of_blk h rfl, cell_of_blk h rfl, cell_of_blk h rfl, cell_of_blk h rfl⟩, ⟨by decide, by decide, by decide, by decide⟩⟩
    | j + 1, hj => simp at hj
  · match j, hj with
    | 0, hj => cases hj; exact .nil _ _
    | j + 1, hj => simp at hj
theorem exE5 (w : World) : SlE (exW w w.heap.size) (.slice (some ⟨w.heap.size + 5, 0, none⟩) 1 1) [Ck.exI] := by
  have h := exW_5 w
  refine SlE.row (w.heap.size + 5) 0 1 [Ck.exI] (fun j => if j = 0 then .slice none 0 0 else .slice none 0 0) (Nat.le_refl _) (by decide) (fun j e hj => ?_) (fun j e hj => ?_)
  · match j, hj with
    | 0, hj => cases hj; exact ⟨⟨cell_of_blk h rfl, cell_of_blk h rfl, cell_of_blk h rfl, cell_of_blk h rfl, cell_of_blk h rfl, cell_of_blk h rfl⟩, ⟨by decide, by decide, by decide, by decide⟩⟩
    | j + 1, hj => simp at hj
  · match j, hj with
    | 0, hj => cases hj; exact .nil _ _
    | j + 1, hj => simp at hj
theorem exE6 (w : World) : SlE (exW w w.heap.size) (.slice (some ⟨w.heap.size + 6, 0, none⟩) 2 2) [Ck.exT, Ck.exN] := by
  have h := exW_6 w
  refine SlE.row (w.heap.size + 6) 0 2 [Ck.exT, Ck.exN] (fun j => if j = 0 then .slice none 0 0 else if j = 1 then .slice (some ⟨w.heap.size + 5, 0, none⟩) 1 1 else .slice none 0 0) (Nat.le_refl _) (by decide) (fun j e hj => ?_) (fun j e hj => ?_)
  · match j, hj with
    | 0, hj => cases hj; exact ⟨⟨cell_of_blk h rfl, cell_of_blk h rfl, cell_of_blk h rfl, cell_of_blk h rfl, cell_of_blk h rfl, cell_of_blk h rfl⟩, ⟨by decide, by decide, by decide, by decide⟩⟩
    | 1, hj => cases hj; exact ⟨⟨cell_of_blk h rfl, cell_of_blk h rfl, cell_of_blk h rfl, cell_of_blk h rfl, cell_of_blk h rfl, cell_of_blk h rfl⟩, ⟨by decide, by decide, by decide, by decide⟩⟩
    | j + 2, hj => simp at hj
  · match j, hj with
    | 0, hj => cases hj; exact .nil _ _
    | 1, hj => cases hj; exact exE5 w
    | j + 2, hj => simp at hj
theorem exS7 (w : World) : SlS (exW w w.heap.size) (.slice (some ⟨w.heap.size + 7, 0, none⟩) 3 3) [Ck.exS0, Ck.exS1, Ck.exS2] := by
  have h := exW_7 w
  refine SlS.row (w.heap.size + 7) 0 3 [Ck.exS0, Ck.exS1, Ck.exS2] (fun j => if j = 0 then .slice (some ⟨w.heap.size + 2, 0, none⟩) 1 1 else if j = 1 then .slice (some ⟨w.heap.size + 4, 0, none⟩) 1 1 else .slice (some ⟨w.heap.size + 6, 0, none⟩) 2 2) (fun _ => .slice none 0 0) (fun _ => .slice none 0 0) (Nat.le_refl _) (by decide) (fun j e hj => ?_) (fun j e hj => ?_) (fun j e hj => ?_) (fun j e hj => ?_)
  · match j, hj with
    | 0, hj => cases hj; exact ⟨⟨cell_of_blk h rfl, cell_of_blk h rfl, cell_of_blk h rfl, cell_of_blk h rfl, cell_of_blk h rfl⟩, ⟨by decide, by decide⟩⟩
    | 1, hj => cases hj; exact ⟨⟨cell_of_blk h rfl, cell_of_blk h rfl, cell_of_blk h rfl, cell_of_blk h rfl, cell_of_blk h rfl⟩, ⟨by decide, by decide⟩⟩
    | 2, hj => cases hj; exact ⟨⟨cell_of_blk h rfl, cell_of_blk h rfl, cell_of_blk h rfl, cell_of_blk h rfl, cell_of_blk h rfl⟩, ⟨by decide, by decide⟩⟩
    | j + 3, hj => simp at hj
  · match j, hj with
    | 0, hj => cases hj; exact exE2 w
    | 1, hj => cases hj; exact exE4 w
    | 2, hj => cases hj; exact exE6 w
    | j + 3, hj => simp at hj
  · match j, hj with
    | 0, hj => cases hj; exact .nil _ _
    | 1, hj => cases hj; exact .nil _ _
    | 2, hj => cases hj; exact .nil _ _
    | j + 3, hj => simp at hj
  · match j, hj with
    | 0, hj => cases hj; exact .nil _ _
    | 1, hj => cases hj; exact .nil _ _
    | 2, hj => cases hj; exact .nil _ _
    | j + 3, hj => simp at hj
theorem exStr (w : World) (k : Nat) (s : ByteArray) (hs : s.size ≤ maxLen) (h : (exW w w.heap.size).heap[w.heap.size + k]? = some (.cells #[.string s] 9 (0, 0))) : SlStr (exW w w.heap.size) (.slice (some ⟨w.heap.size + k, 0, none⟩) 1 1) [s] := by
  refine ⟨_, 1, rfl, show 1 ≤ maxLen by decide, fun _ => ⟨Nat.le_refl _, by decide⟩, fun j x hj => ?_⟩
  match j, hj with
  | 0, hj => cases hj; exact ⟨hs, _, 0, rfl, lt_of_block h, cell_of_blk h rfl⟩
  | j + 1, hj => simp at hj
theorem exM10 (w : World) : SlM (exW w w.heap.size) (.slice (some ⟨w.heap.size + 10, 0, none⟩) 1 1) [Ck.exM] := by
  have h := exW_10 w
  refine ⟨_, 1, rfl, by decide, fun _ => ⟨Nat.le_refl _, by decide⟩, fun j x hj => ?_⟩
  match j, hj with
  | 0, hj => cases hj; exact ⟨by decide, _, 0, _, _, rfl, lt_of_block h, ⟨cell_of_blk h rfl, cell_of_blk h rfl, cell_of_blk h rfl⟩, exStr w 9 _ (by decide) (exW_9 w), exS7 w⟩
  | j + 1, hj => simp at hj
theorem exC11 (w : World) : SlC (exW w w.heap.size) (.slice (some ⟨w.heap.size + 11, 0, none⟩) 1 1) Ck.exCs := by
  have h := exW_11 w
  refine ⟨_, 1, rfl, by decide, fun _ => ⟨Nat.le_refl _, by decide⟩, fun j x hj => ?_⟩
  match j, hj with
  | 0, hj => cases hj; exact ⟨by decide, _, 0, _, _, rfl, lt_of_block h, ⟨cell_of_blk h rfl, cell_of_blk h rfl, cell_of_blk h rfl, cell_of_blk h rfl⟩, exStr w 8 _ (by decide) (exW_8 w), exM10 w⟩
  | j + 1, hj => unfold Ck.exCs at hj; simp at hj
def ExPost (w : World) (e : Ending) (w' : World) : Prop := ∃ v, e = .returned (.agg #[v]) ∧ SlC w' v Ck.exCs ∧ Below w.heap.size w w'

set_option maxRecDepth 100000 in
set_option maxHeartbeats 1000000 in
theorem example_any (w : World) : Calls Tryz.prog 33 #[] w (ExPost w) := by
  go_enter Tryz.func33, Tryz.ntmps33
  go_wp2_with fail
  refine (ex1_any _ _).mono ?_
  rintro e w2 ⟨rfl, rfl⟩
  go_wp2_with fail
  refine (ex1_any _ _).mono ?_
  rintro e w2 ⟨rfl, rfl⟩
  go_wp2_with fail
  exact bodyPost_ret (v := .agg #[.slice (some ⟨w.heap.size + 1 + 1 + 1 + 1 + 1 + 1 + 1 + 1 + 1 + 1 + 1, 0, none⟩) 1 1]) (results_cell_row Tryz.results33 _ _ w.heap.size _ _ _ _ rfl (exW_0 w) Tryz.underlying24 rfl (by kernel_rfl)) rfl ⟨_, rfl, exC11 w, exW_below w _⟩
theorem ex_valid : Tr.validP Ck.exCs = true := by decide +kernel
theorem ex_few : Tr.fewP Ck.exCs 300 = true := by decide +kernel
theorem ex_check : Ck.check Ck.exCs = [4, 4, 4] := by decide +kernel
theorem ex_lines : explainL Ck.exCs = [⟨#[99, 108, 97, 115, 115, 32, 65, 44, 32, 109, 101, 116, 104, 111, 100, 32, 102, 58, 32, 117, 110, 107, 110, 111, 119, 110, 32, 118, 97, 114, 105, 97, 98, 108, 101]⟩, ⟨#[99, 108, 97, 115, 115, 32, 65, 44, 32, 109, 101, 116, 104, 111, 100, 32, 102, 58, 32, 117, 110, 107, 110, 111, 119, 110, 32, 99, 108, 97, 115, 115]⟩, ⟨#[99, 108, 97, 115, 115, 32, 65, 44, 32, 109, 101, 116, 104, 111, 100, 32, 102, 58, 32, 117, 110, 107, 110, 111, 119, 110, 32, 102, 105, 101, 108, 100]⟩] := by decide +kernel
end Go.Proofs.YtdafdbjdnebnfaaGreatDoor

namespace Go.Proofs.YtdafdbjdnebnfaaGreatDoor
open Go.RowKit Go.Maps

theorem rdI_new (w : World) (l : List Nat) (hl : l.length ≤ 1000) : RdI (w.alloc (.cells (codeCells l).toArray 50)) (.slice (some ⟨w.heap.size, 0, none⟩) l.length l.length) l := by
  have hb := (MapKept.heap_alloc w (.cells (codeCells l).toArray 50)).1
  refine ⟨_, _, rfl, by unfold maxLen; omega, fun _ => ⟨Nat.le_refl _, by unfold maxLen; omega⟩, fun j n hj => ⟨_, 0, rfl, lt_of_block hb, ?_⟩⟩
  rw [Nat.zero_add]
  refine cell_of_blk hb ?_
  unfold codeCells
  rw [List.getElem?_toArray, List.getElem?_map, hj]
  rfl
theorem slStr_new (w : World) (l : List ByteArray) (hl : l.length ≤ 1000) (hs : ∀ s ∈ l, s.size ≤ maxLen) : SlStr (w.alloc (.cells (strCellsB l).toArray 9)) (.slice (some ⟨w.heap.size, 0, none⟩) l.length l.length) l := by
  have hb := (MapKept.heap_alloc w (.cells (strCellsB l).toArray 9)).1
  refine ⟨_, _, rfl, by unfold maxLen; omega, fun _ => ⟨Nat.le_refl _, by unfold maxLen; omega⟩, fun j n hj => ⟨hs n (List.mem_of_getElem? hj), _, 0, rfl, lt_of_block hb, ?_⟩⟩
  rw [Nat.zero_add]
  refine cell_of_blk hb ?_
  unfold strCellsB
  rw [List.getElem?_toArray, List.getElem?_map, hj]
  rfl
def L1 : ByteArray := ⟨#[99, 108, 97, 115, 115, 32, 65, 44, 32, 109, 101, 116, 104, 111, 100, 32, 102, 58, 32, 117, 110, 107, 110, 111, 119, 110, 32, 118, 97, 114, 105, 97, 98, 108, 101]⟩
def L2 : ByteArray := ⟨#[99, 108, 97, 115, 115, 32, 65, 44, 32, 109, 101, 116, 104, 111, 100, 32, 102, 58, 32, 117, 110, 107, 110, 111, 119, 110, 32, 99, 108, 97, 115, 115]⟩
def L3 : ByteArray := ⟨#[99, 108, 97, 115, 115, 32, 65, 44, 32, 109, 101, 116, 104, 111, 100, 32, 102, 58, 32, 117, 110, 107, 110, 111, 119, 110, 32, 102, 105, 101, 108, 100]⟩

set_option maxRecDepth 100000 in
set_option maxHeartbeats 4000000 in
theorem awake40_any (w : World) (hE : CkEnv w) : Calls Tryz.prog 14 #[] w fun e w' => e = .returned (.bool true) ∧ Below w.heap.size w w' := by
  have HE := Lib.hid hE
  clear hE
  go_enter Tryz.func14, Tryz.ntmps14
  go_wp2_with fail
  refine (example_any _).mono ?_
  rintro e w2 ⟨v, rfl, hs, hb2⟩
  obtain ⟨pv, cpv, rfl⟩ := hs.form
  have hB2 := Lib.hid hb2
  have hbx := below_box w2 (.cells #[.slice pv Ck.exCs.length cpv] 24)
  have c0 := box_cell w2 #[.slice pv Ck.exCs.length cpv] 24 0 _ rfl
  have KC := Lib.hid (check_any _ Ck.exCs _ (HE.out.keep (hb2.trans (hbx.mono hb2.size))) (hs.keep hbx) (Ck.small_of ex_few (by decide)) (Tr.fitP_of ex_few (by decide)))
  have KX : Hid (∀ W, Below w.heap.size w W → SlC W (.slice pv Ck.exCs.length cpv) Ck.exCs → Calls Tryz.prog 15 #[.agg #[.slice pv Ck.exCs.length cpv]] W (ExplainPost Ck.exCs W)) := fun W hb hs => explain_any _ Ck.exCs W (HE.out.keep hb) hs (Ck.small_of ex_few (by decide)) (Tr.fitP_of ex_few (by decide))
  have HS := Lib.hid (hs.keep hbx)
  have hB3 := Lib.hid (hb2.trans (hbx.mono hb2.size))
  obtain ⟨CN, hCN⟩ : ∃ q, Ck.exCs.length = q := ⟨_, rfl⟩
  rw [hCN] at KC KX HS c0 hB3 ⊢
  obtain ⟨w3, hw3⟩ : ∃ q, q = w2.alloc (.cells #[.slice pv CN cpv] 24) := ⟨_, rfl⟩
  rw [← hw3] at KC HS hB3 c0
  have HW3 := Lib.hid hw3
  have C0 := Lib.hid c0
  clear hs hb2 hbx hCN hw3 c0
  go_upto_region 2 with fail
  rw [← HW3.out]
  have c0 := C0.out
  go_wp2_with fail
  refine KC.out.mono ?_
  rintro e w4 ⟨lv, rfl, ho4, hb4⟩
  rw [ex_check] at ho4
  have C4 := Lib.hid (cell_keep' hb4 c0)
  have hB4 := Lib.hid (hB3.out.trans (hb4.mono hB3.out.size))
  have hS4 := Lib.hid (HS.out.keep hb4)
  have hbx4 := below_box w4 (.cells #[.int .i64 4, .int .i64 4, .int .i64 4] 50)
  have hsame := sameErr_any _ _ [4, 4, 4] [4, 4, 4] _ ((rdI_own (l := [4, 4, 4]) ho4).keep hbx4) (rdI_new w4 [4, 4, 4] (by decide))
  rw [decide_eq_true rfl] at hsame
  have HSA := Lib.hid hsame
  have hB5 := Lib.hid (hB4.out.trans (hbx4.mono hB4.out.size))
  have C5 := Lib.hid (cell_keep' hbx4 C4.out)
  have HS5 := Lib.hid (hS4.out.keep hbx4)
  clear ho4 hb4 hbx4 hsame c0
  go_wp2_with fail
  refine HSA.out.mono ?_
  rintro e w5 ⟨rfl, hb5⟩
  have hB6 := Lib.hid (hB5.out.trans (hb5.mono hB5.out.size))
  have HS6 := Lib.hid (HS5.out.keep hb5)
  have c0 := cell_keep' hb5 C5.out
  clear hb5
  go_wp2_with fail
  refine (KX.out _ hB6.out HS6.out).mono ?_
  rintro e w6 ⟨xv, rfl, ho6, hb6⟩
  rw [ex_lines] at ho6
  have hB7 := Lib.hid (hB6.out.trans (hb6.mono hB6.out.size))
  have hbx6 := below_box w6 (.cells #[.string L1, .string L2, .string L3] 9)
  have hlens : ∀ s ∈ [L1, L2, L3], s.size ≤ maxLen := by decide
  have hsame2 := sameLines_any _ _ [L1, L2, L3] [L1, L2, L3] _ ((slStr_own (l := [L1, L2, L3]) ho6 hlens).keep hbx6) (slStr_new w6 [L1, L2, L3] (by decide) hlens)
  rw [decide_eq_true rfl] at hsame2
  have HSB := Lib.hid hsame2
  have hB8 := Lib.hid (hB7.out.trans (hbx6.mono hB7.out.size))
  clear ho6 hb6 hbx6 hsame2 hlens c0
  go_wp2_with fail
  refine HSB.out.mono ?_
  rintro e w8 ⟨rfl, hb8⟩
  go_wp2_with fail
  go_ret
  exact ⟨rfl, hB8.out.trans (hb8.mono hB8.out.size)⟩
end Go.Proofs.YtdafdbjdnebnfaaGreatDoor
