/-
  Tokens out of an owned row; the program's Format, walked.
-/
import Derived.Test.YthbipapihdppmaaDoorLexProgH
namespace Go.Proofs.YthbipapihdppmaaDoor
open Go.RowKit

theorem toksCells_get : ∀ (ts : List Lex.Tok) (j : Nat) (t : Lex.Tok), ts[j]? = some t → ∀ i, i < 4 → (toksCells ts)[j * 4 + i]? = (tokCells t)[i]?
  | [], j, t, h, _, _ => by simp at h
  | a :: ts, 0, t, h, i, hi => by
    simp only [List.getElem?_cons_zero, Option.some.injEq] at h
    subst h
    show (tokCells a ++ toksCells ts)[0 * 4 + i]? = _
    rw [Nat.zero_mul, Nat.zero_add, List.getElem?_append_left (by simp [tokCells]; omega)]
  | a :: ts, j + 1, t, h, i, hi => by
    simp only [List.getElem?_cons_succ] at h
    show (tokCells a ++ toksCells ts)[(j + 1) * 4 + i]? = _
    have hl : (tokCells a).length = 4 := rfl
    rw [List.getElem?_append_right (by omega), hl, show (j + 1) * 4 + i - 4 = j * 4 + i by omega]
    exact toksCells_get ts j t h i hi

theorem toks_of_own {w : World} {B : Nat} {v : Value} {ts : List Lex.Tok} (h : w.ownsRow B 30 4 v ts.length (toksCells ts)) (hne : ts ≠ []) :
    ∃ g cap, v = .slice (some ⟨g, 0, none⟩) ts.length cap ∧ ts.length ≤ cap ∧ ToksAt w g ts ∧ B ≤ g ∧ g < w.heap.size := by
  have hc := h
  rcases h.2 with ⟨_, h0⟩ | ⟨g, cap, cur, rfl, hb, hg, hn, _⟩
  · exact absurd (List.eq_nil_of_length_eq_zero h0) hne
  · refine ⟨g, cap, rfl, hn, ?_, hb, (Array.getElem?_eq_some_iff.1 hg).1⟩
    intro j t hj
    have hcell := fun i hi u (hu : (tokCells t)[i]? = some u) => hc.cells (g := g) rfl (j * 4 + i) u ((toksCells_get ts j t hj i hi).trans hu)
    have hadd : ∀ m, (⟨g, 0, none⟩ : Addr).add m = ⟨g, m, none⟩ := by intro m; unfold Addr.add; split <;> simp_all
    simp only [hadd] at hcell
    exact ⟨hcell 0 (by omega) _ rfl, hcell 1 (by omega) _ rfl, hcell 2 (by omega) _ rfl, hcell 3 (by omega) _ rfl⟩

theorem ToksAt.keep {w w' : World} {B b : Nat} {ts : List Lex.Tok} (h : ToksAt w b ts) (hb : Below B w w') (hlt : b < B) : ToksAt w' b ts := by
  intro j t hj
  obtain ⟨h0, h1, h2, h3⟩ := h j t hj
  exact ⟨by rw [hb.cell hlt]; exact h0, by rw [hb.cell hlt]; exact h1, by rw [hb.cell hlt]; exact h2, by rw [hb.cell hlt]; exact h3⟩

/-- the texts that Format joins -/
def texts (ts : List Lex.Tok) : List (List UInt8) := (ts.filter fun t => decide (t.kind ≠ 0)).map (·.text)
def strCells (ls : List (List UInt8)) : List Value := ls.map fun l => .string ⟨l.toArray⟩
def fmtL (ts : List Lex.Tok) : List UInt8 := Lib.join (texts ts) [32]

theorem strInfo : (Tryd.prog.info? 9).map (fun i => (i.zero, i.size, i.bytes)) = some (some (.string ⟨#[]⟩), 1, 16) := by kernel_rfl

theorem take_snoc_get {α : Type} {l : List α} {k : Nat} {t : α} (h : l[k]? = some t) : l.take (k + 1) = l.take k ++ [t] := by
  obtain ⟨hk, he⟩ := List.getElem?_eq_some_iff.1 h
  rw [List.take_succ_eq_append_getElem hk, he]
theorem texts_skip {ts : List Lex.Tok} {k : Nat} {t : Lex.Tok} (h : ts[k]? = some t) (h0 : t.kind = 0) : texts (ts.take (k + 1)) = texts (ts.take k) := by
  rw [take_snoc_get h]; unfold texts; simp [List.filter_append, h0]
theorem texts_take {ts : List Lex.Tok} {k : Nat} {t : Lex.Tok} (h : ts[k]? = some t) (h0 : t.kind ≠ 0) : texts (ts.take (k + 1)) = texts (ts.take k) ++ [t.text] := by
  rw [take_snoc_get h]; unfold texts; simp [List.filter_append, h0]
theorem texts_len (ts : List Lex.Tok) : (texts ts).length ≤ ts.length := by unfold texts; rw [List.length_map]; exact List.length_filter_le _ _

theorem join_cells (w : World) (bk c : Nat) (ls : List (List UInt8)) (n : Nat) (hn : n = ls.length) (hcells : ∀ (j : Nat) (u : Value), (strCells ls)[j]? = some u → w.cell? ⟨bk, j, none⟩ = some u) (hbk : bk < w.heap.size) (hN : ls.length ≤ 100000) (hcap : ls.length ≤ c) (hlen : (Lib.join ls [32]).length ≤ 140737488355328) :
    Calls Tryd.prog 28 #[.slice (some ⟨bk, 0, none⟩) n c, .string ⟨#[32]⟩] w fun e w' => e = .returned (.string ⟨(Lib.join ls [32]).toArray⟩) ∧ Below w.heap.size w w' := by
  have hm : (ls.map fun l => (⟨l.toArray⟩ : ByteArray)).map (·.data.toList) = ls := by
    rw [List.map_map]
    conv => rhs; rw [← List.map_id ls]
    apply List.map_congr_left
    intro l _; rfl
  have h := Tryd.strings_Join bk 0 c (ls.map fun l => ⟨l.toArray⟩) ⟨#[32]⟩ w (by
    intro j x hx
    rw [Nat.zero_add]
    apply hcells
    unfold strCells
    rw [List.getElem?_map] at hx ⊢
    cases hj : ls[j]? with
    | none => rw [hj] at hx; cases hx
    | some l => rw [hj] at hx; cases hx; rfl) hbk (by rw [List.length_map]; omega) (by rw [List.length_map]; exact hcap) (by rw [hm]; exact hlen)
  rw [hm, List.length_map, ← hn] at h
  exact h

set_option maxRecDepth 100000 in
set_option maxHeartbeats 1000000 in
/-- Format -/
theorem format_any (b c : Nat) (ts : List Lex.Tok) (w : World) (hb : b < w.heap.size) (hts : ToksAt w b ts) (hl : ts.length ≤ 100000) (hlen : (fmtL ts).length ≤ 140737488355328) :
    Calls Tryd.prog 21 #[.slice (some ⟨b, 0, none⟩) ts.length c] w fun e w' => e = .returned (.string ⟨(fmtL ts).toArray⟩) ∧ Below w.heap.size w w' := by
  obtain ⟨i0, hi, hz0, hz1, hz2⟩ := info_parts strInfo
  obtain ⟨n, hn⟩ : ∃ n, ts.length = n := ⟨_, rfl⟩
  rw [hn] at hl ⊢
  have HN := Lib.hid hn
  have HT := Lib.hid hts
  have HL := Lib.hid hlen
  clear hn hts hlen
  go_enter Tryd.func21, Tryd.ntmps21
  go_wp2_with fail
  go_loopw [3, 8] (fun out i wr => ∃ k : Nat, k ≤ n ∧ i = .int .i64 k ∧ wr.ownsRow w.heap.size 9 1 out (texts (ts.take k)).length (strCells (texts (ts.take k))) ∧ Below w.heap.size w wr) (fun _ i _ => n - (intOf i).toNat)
  case atStart => exact ⟨0, Nat.zero_le _, rfl, World.ownsRow_nil _ _ _ _, Below.refl _ _⟩
  case round =>
    obtain ⟨k, hk, rfl, hown, hbel⟩ := hrel
    have hsz := hbel.size
    by_cases hlt : k < n
    · obtain ⟨t, ht⟩ : ∃ t, ts[k]? = some t := ⟨_, List.getElem?_eq_getElem (by rw [HN.out]; exact hlt)⟩
      obtain ⟨x0, x1, x2, x3⟩ := (HT.out.keep hbel hb) k t ht
      have HG := Lib.hid ht
      clear ht
      by_cases h0 : t.kind = 0
      · have hne : (((t.kind : Nat) : Int) != 0) = false := by rw [h0]; rfl
        have H0 := Lib.hid h0
        clear h0
        go_wp2_with fail
        go_roundw
        case rel => exact ⟨k + 1, by omega, by go_num, by rw [texts_skip HG.out H0.out]; exact hown.alloc _, hbel.alloc (by omega) _⟩
        case measure => simp [intOf]; omega
      · have hne : (((t.kind : Nat) : Int) != 0) = true := by rw [bne_iff_ne]; omega
        have H0 := Lib.hid h0
        clear h0
        have hlen2 : (texts (ts.take k)).length ≤ n := by
          have h1 := texts_len (ts.take k)
          rw [List.length_take] at h1
          omega
        go_wp2_with (at_builtin; refine wpList_append_own _ rfl _ _ 36 rfl w.heap.size 9 i0 (.string ⟨#[]⟩) 1 16 Tryd.underlying36 hi hz0 hz1 hz2 rfl (by decide) _ _ _ rfl ((hown.alloc _).alloc _) ⟨wr.heap.size + 1, 0, none⟩ 1 1 [.string ⟨t.text.toArray⟩] rfl rfl (news_cells (cs := #[.string ⟨t.text.toArray⟩]) rfl (by simp)) (by simp [Value.oneCell']) (by unfold maxLen; omega) (by omega) (by simp <;> omega) ?_; intro v' wa howna hgrow hnil)
        go_roundw
        case rel =>
          refine ⟨k + 1, by omega, by go_num, ?_, ((hbel.alloc (by omega) _).alloc (by simp <;> omega) _).grown hgrow (by simp <;> omega) fun q hq => (hown.lt q hq).1⟩
          rw [texts_take HG.out H0.out, List.length_append]
          unfold strCells at howna ⊢
          rw [List.map_append]
          exact howna
        case measure => simp [intOf]; omega
    · have hke : k = n := by omega
      subst hke
      have hfull : ts.take k = ts := List.take_of_length_le (by rw [HN.out]; exact Nat.le_refl _)
      rw [hfull] at hown
      have htl := texts_len ts
      rw [HN.out] at htl
      have hcells := fun (g : Nat) (hg : _) => hown.cells (g := g) hg
      have hadd : ∀ (g m : Nat), (⟨g, 0, none⟩ : Addr).add m = ⟨g, m, none⟩ := by intro g m; unfold Addr.add; split <;> simp_all
      rcases hown.2 with ⟨rfl, h0⟩ | ⟨g, cap, cur, rfl, hge, hg, hcap, _⟩
      · have ht0 : texts ts = [] := List.eq_nil_of_length_eq_zero h0
        have hf0 : fmtL ts = [] := by unfold fmtL; rw [ht0]; rfl
        have hJ : ∀ w0, Calls Tryd.prog 28 #[.slice none 0 0, .string ⟨#[32]⟩] w0 fun e w' => e = .returned (.string ⟨#[]⟩) ∧ w' = w0 := fun w0 => Tryd.strings_Join_none none 0 ⟨#[32]⟩ w0
        have HJ := Lib.hid hJ
        have HF := Lib.hid hf0
        clear hJ hf0 ht0 h0 hcells hadd hfull hown
        go_wp2_with (go_at_call 28; refine (HJ.out _).mono ?_; rintro e w' ⟨rfl, hw'⟩; rw [hw'])
        go_ret
        exact ⟨ret_str (by rw [HF.out]), hbel⟩
      · have hJ := join_cells wr g cap (texts ts) (texts ts).length rfl (by
          intro j u hu
          have := hcells g rfl j u hu
          rw [hadd] at this
          exact this) (Array.getElem?_eq_some_iff.1 hg).1 (by omega) hcap HL.out
        have HJ := Lib.hid hJ
        clear hJ hcells hadd hfull hown
        go_wp2_with (go_at_call 28; refine HJ.out.mono ?_; rintro e w' ⟨rfl, hb'⟩)
        go_ret
        exact ⟨rfl, hbel.trans (hb'.mono (by omega))⟩
end Go.Proofs.YthbipapihdppmaaDoor
