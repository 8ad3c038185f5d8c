/-
  The law's bare, walked: the tokens without their offsets and without the end.
-/
import Derived.Test.YthbipapihdppmaaDoorLexJoin
namespace Go.Proofs.YthbipapihdppmaaDoor
open Go.RowKit

theorem bareL_snoc_end (ts : List Lex.Tok) (t : Lex.Tok) (h : t.kind = 0) : bareL (ts ++ [t]) = bareL ts := by
  rw [bareL_append]; simp [bareL, h]
theorem bareL_snoc (ts : List Lex.Tok) (t : Lex.Tok) (h : t.kind ≠ 0) : bareL (ts ++ [t]) = bareL ts ++ [⟨t.kind, t.text, t.val, 0⟩] := by
  rw [bareL_append]; simp [bareL, h]
theorem bareL_len (ts : List Lex.Tok) : (bareL ts).length ≤ ts.length := by
  unfold bareL; rw [List.length_map]; exact List.length_filter_le _ _

set_option maxRecDepth 100000 in
set_option maxHeartbeats 1000000 in
theorem bare_any (b1 c1 : Nat) (ts : List Lex.Tok) (w : World) (hl : ts.length ≤ 1000000) (hb : b1 < w.heap.size) (h1 : ToksAt w b1 ts) :
    Calls Tryd.prog 14 #[.slice (some ⟨b1, 0, none⟩) ts.length c1] w fun e w' => ∃ v, e = .returned v ∧ w'.ownsRow w.heap.size 30 4 v (bareL ts).length (toksCells (bareL ts)) ∧ Below w.heap.size w w' := by
  obtain ⟨i0, hi, hz0, hz1, hz2⟩ := info_parts tokInfo
  have H1 := Lib.hid h1
  obtain ⟨n, hn2⟩ : ∃ n, ts.length = n := ⟨_, rfl⟩
  rw [hn2] at hl ⊢
  have HN2 := Lib.hid hn2
  clear h1 hn2
  go_enter Tryd.func14, Tryd.ntmps14
  go_wp2
  go_loopw [3, 8] (fun out i wr => ∃ k : Nat, k ≤ n ∧ i = .int .i64 k ∧ wr.ownsRow w.heap.size 30 4 out (bareL (ts.take k)).length (toksCells (bareL (ts.take k))) ∧ Below w.heap.size w wr) (fun _ i _ => n - (intOf i).toNat)
  case atStart => exact ⟨0, Nat.zero_le _, rfl, World.ownsRow_nil _ _ _ _, Below.refl _ _⟩
  case round =>
    obtain ⟨k, hk, rfl, hown, hbel⟩ := hrel
    have hsz := hbel.size
    by_cases hlt : k < n
    · obtain ⟨t, ht⟩ : ∃ t, ts[k]? = some t := ⟨_, List.getElem?_eq_getElem (by rw [HN2.out]; exact hlt)⟩
      obtain ⟨x0, x1, x2, x3⟩ := (H1.out.keep hbel hb) k t ht
      have htk : ts.take (k + 1) = ts.take k ++ [t] := by rw [List.take_add_one, ht]; rfl
      have hln := bareL_len (ts.take k)
      have hl3 : (ts.take k).length = min k ts.length := List.length_take
      rw [HN2.out] at hl3
      have HT := Lib.hid ht
      have HTK := Lib.hid htk
      clear ht htk
      by_cases h0 : t.kind = 0
      · have q1 : ((t.kind : Int) != 0) = false := by rw [h0]; rfl
        have H0 := Lib.hid h0
        clear h0
        go_wp2
        go_roundw
        case rel => exact ⟨k + 1, by omega, by go_num, by rw [HTK.out, bareL_snoc_end _ _ H0.out]; exact hown.alloc _, hbel.alloc hsz _⟩
        case measure => simp [intOf]; omega
      · have q1 : ((t.kind : Int) != 0) = true := by rw [bne_iff_ne]; omega
        have H0 := Lib.hid h0
        clear h0
        go_wp2_with (at_builtin; refine wpList_append_own _ rfl _ _ 23 rfl w.heap.size 30 i0 (.agg #[.int .i64 0, .string ⟨#[]⟩, .int .i64 0, .int .i64 0]) 4 40 Tryd.underlying23 hi hz0 hz1 hz2 rfl (by decide) _ _ _ rfl ((hown.alloc _).alloc _) ⟨wr.heap.size + 1, 0, none⟩ 1 1 [.int .i64 t.kind, .string ⟨t.text.toArray⟩, .int .i64 t.val, .int .i64 0] rfl rfl (news_cells (cs := #[.int .i64 t.kind, .string ⟨t.text.toArray⟩, .int .i64 t.val, .int .i64 0]) rfl (by simp)) (by simp [Value.oneCell']) (by unfold maxLen; omega) (by omega) (by simp <;> omega) ?_; intro v' w2 hown2 hgrow _)
        go_roundw
        case rel =>
          refine ⟨k + 1, by omega, by go_num, ?_, ?_⟩
          · rw [HTK.out, bareL_snoc _ _ H0.out, toksCells_snoc, List.length_append]; exact hown2
          · exact ((hbel.alloc (by omega) _).alloc (by simp <;> omega) _).grown hgrow (by simp <;> omega) fun q hq => (hown.lt q hq).1
        case measure => simp [intOf]; omega
    · have : ts.take k = ts := List.take_of_length_le (by rw [HN2.out]; omega)
      rw [this] at hown
      go_wp2
      go_ret
      exact ⟨_, rfl, hown, hbel⟩
end Go.Proofs.YthbipapihdppmaaDoor
