/-
  Several texts in one: PrOper, PbSend.
-/
import Derived.Test.YtdckddkalgnlpaaGreatDoorA20
import Derived.Test.YtdckddkalgnlpaaGreatDoorA19
namespace Go.Proofs.YtdckddkalgnlpaaGreatDoor
open Go.RowKit Go.Maps Pw
theorem pO_othR {L : List Lex.Tok} {n k : Nat} {t : Lex.Tok} (hL : Pa.TkL L n) (hk : k ≤ n) (ht : L[k]? = some t) (h1 : t.kind ≠ 1) (h2 : t.kind ≠ 2) (f : Nat) : Pa.pO (f + 1) (Pa.rest L n k) =
 Pa.opt [110, 105, 108] (fun r => .ok (Pa.leaf 1) r) (Pa.opt [116, 104, 105, 115] (fun r => .ok (Pa.leaf 2) r) (Pa.opt [40] (fun r => (Pa.pE f 0 r).bind fun a r => (Pa.expect [41] r).bind fun _ r => .ok a r)
  (Pa.opt [110, 101, 119] (fun r => (Pa.word 3 r).bind fun n r => (Pa.pA f r).bind fun l r => Pa.opt [97, 116] (fun r => (Pa.pE f 6 r).bind fun b r => .ok (Pa.new n true (l ++ [b])) r) (fun r => .ok (Pa.new n false l) r) r) fun r => .bad r))) (Pa.rest L n k) := by
 rw [pO_oth hL hk ht h1 h2]
 unfold Pa.opt Pa.expect
 split
 ·rfl
 split
 ·rfl
 split
 ·rfl
 dsimp only
 cases Pa.is [110, 101, 119] (Pa.rest L n k) <;> rfl
theorem xo_other {L : List Lex.Tok} {k k' : Nat} {b b' : Bool} {x : Tr.E} {t : Lex.Tok} (ht : L[k]? = some t) (h : b = true ∨ t.kind ≠ 2) (hx : x.kind ≠ 3) : XO L k b x k' b' := by
 refine ⟨fun hb t' ht' h2 => ?_, fun h3 => absurd h3 hx⟩
 rcases h with h | h
 ·rw [h] at hb; cases hb
 ·rw [ht] at ht'
  cases ht'
  exact absurd h2 h
theorem xo_paren {L : List Lex.Tok} {k k' : Nat} {b b' : Bool} {x : Tr.E} {t : Lex.Tok} (ht : L[k]? = some t) (h : t.kind ≠ 2) (hk : 1 ≤ k') (hw : wd L k' b') : XO L k b x k' b' := by
 refine ⟨fun hb t' ht' h2 => ?_, fun _ => ⟨hk, fun hb t' ht' h2 => absurd h2 ((hw hb).2 t' ht')⟩⟩
 rw [ht] at ht'
 cases ht'
 exact absurd h2 h
theorem xo_name {L : List Lex.Tok} {k : Nat} {t : Lex.Tok} (ht : L[k]? = some t) : XO L k false (Pa.var ⟨t.text.toArray⟩) (k + 1) false := by
 refine ⟨fun _ t' ht' _ => ?_, fun _ => ⟨Nat.le_add_left .., fun _ _ _ _ => ⟨rfl, rfl⟩⟩⟩
 rw [ht] at ht'
 cases ht'
 exact ⟨rfl, rfl, rfl⟩
set_option maxRecDepth 100000 in
set_option maxHeartbeats 8000000 in
theorem operandR_of {L : List Lex.Tok} {n tbk tc P m : Nat} (hL : Pa.TkL L n) (hE : REL L n tbk tc P 0 0 m) (hA : ∀ k b w, RS L n tbk tc P k b w → n - k < m → Calls Tryz.prog 125 #[.pointer (some ⟨P, 0, none⟩)] w (RX L n tbk tc P k b (fun f ts => Pa.pA f ts) (rdL w.heap.size) (fun _ _ _ => True) w)) (hU : REL L n tbk tc P 6 6 m) : RO L n tbk tc P m := by
 intro k b w hp hk
 obtain ⟨t, ht⟩ := hL.get hp.le
 have HT := Lib.hid ht
 have HKL : Hid (t.kind ≠ 0 → k < n) := Lib.hid (kind_lt hL hp.le ht)
 have HV := Lib.hid (hL.pos t (List.mem_of_getElem? ht)).2.1
 have hsz := tok_size hL ht
 have HE := Lib.hid hE
 have HA := Lib.hid hA
 have HU := Lib.hid hU
 have hf1 := field1
 clear ht hE hA hU
 obtain ⟨w18, HW, C18⟩ := (Cr.start hL hp (fun f ts => Pa.pO f ts)).boxR #[.int .i64 0, .int .i64 0, .int .i64 0, .string ⟨#[]⟩, .bool false, .slice none 0 0] 33
 clear hL hp
 go_enter Tryz.func76, Tryz.ntmps76
 go_upto_region 1 with fail
 rw [← HW.out]
 clear HW
 obtain ⟨w19, HW, C19⟩ := C18.out.drewE
 have y0 := Lib.hid (cell_of_blkP C19.out.ps.blk (j := 0) (u := .slice (some ⟨tbk, 0, none⟩) (n + 1) tc) rfl)
 have y1 := Lib.hid (cell_of_blkP C19.out.ps.blk (j := 1) (u := .int .i64 k) rfl)
 obtain ⟨x2, x3, x4, x5⟩ := C19.out.ps.toks k t HT.out
 have y2 := Lib.hid x2
 have y3 := Lib.hid x3
 have y4 := Lib.hid x4
 have y5 := Lib.hid x5
 clear x2 x3 x4 x5
 have hfew := C19.out.hL.few
 have hle := C19.out.le
 have hcap := C19.out.ps.cap
 have a1 : (0 : Int) ≤ (k : Int) := by omega
 have a2 : (k : Int) < (n : Int) + 1 := by omega
 refine wp_region_held_drew (S := fun W => W.cell? (⟨P, 0, none⟩) = some (.slice (some ⟨tbk, 0, none⟩) (n + 1) tc) ∧ W.cell? (⟨P, 1, none⟩) = some (.int .i64 k) ∧ W.cell? (⟨tbk, k * 4, none⟩) = some (.int .i64 t.kind) ∧ W.cell? (⟨tbk, k * 4 + 1, none⟩) = some (.string ⟨t.text.toArray⟩) ∧ W.cell? (⟨tbk, k * 4 + 2, none⟩) = some (.int .i64 t.val) ∧ W.cell? (⟨tbk, k * 4 + 3, none⟩) = some (.int .i64 t.pos)) (by kernel_rfl) (by rw [← HW.out]; exact ⟨y0.out, y1.out, y2.out, y3.out, y4.out, y5.out⟩) (fun hHeld => ?_)
 rw [← HW.out] at hHeld ⊢
 clear HW C18
 refine rT 0 (some 6) ?_
 try simp only [Act.put, q0, q1, q2]
 refine rT 1 (some 7) ?_
 try simp only [Act.put, q0, q1, q2]
 refine rT 2 (some 8) ?_
 try simp only [Act.put, q0, q1, q2]
 refine rT 3 (some 9) ?_
 try simp only [Act.put, q0, q1, q2]
 refine rT 4 (some 10) ?_
 try simp only [Act.put, q0, q1, q2]
 refine rT 5 (some 11) ?_
 try simp only [Act.put, q0, q1, q2]
 refine rT 6 (some 12) ?_
 try simp only [Act.put, q0, q1, q2]
 refine rT 7 (some 13) ?_
 try simp only [Act.put, q0, q1, q2]
 refine rT 8 (some 14) ?_
 try simp only [Act.put, q0, q1, q2]
 refine rT 9 (some 15) ?_
 try simp only [Act.put, q0, q1, q2]
 obtain ⟨T, w20, HX, HW, hx20, C20⟩ := C19.out.boxE #[.int .i64 0, .string ⟨#[]⟩, .int .i64 0, .int .i64 0] 59
 have HB20 : Hid (Below w19.heap.size w19 w20) := Lib.hid (by rw [HW.out]; exact below_box _ _)
 refine rR1 10 (some 3) (fun K hK => ?_)
 clear hHeld
 go_simp
 refine hK.out _ _ ⟨cell_keep' (below_box w19 _) y0.out, cell_keep' (below_box w19 _) y1.out, cell_keep' (below_box w19 _) y2.out, cell_keep' (below_box w19 _) y3.out, cell_keep' (below_box w19 _) y4.out, cell_keep' (below_box w19 _) y5.out⟩ (fun _ => ?_)
 clear hK K
 try simp only [Act.put, q0, q1, q2]
 rw [← HX.out, ← HW.out]
 clear HX HW C19
 refine rR1 11 none (fun K hK => ?_)
 obtain ⟨l0, c00, f00, c01, f01, c02, f02, c03, f03⟩ := cells4 (C20.out.m.b 0 rfl)
 obtain ⟨w21, HW⟩ : ∃ q, Hid (q = ((((w20.setCell ⟨T, 0, none⟩ (.int .i64 t.kind)).setCell ⟨T, 1, none⟩ (.string ⟨t.text.toArray⟩)).setCell ⟨T, 2, none⟩ (.int .i64 t.val)).setCell ⟨T, 3, none⟩ (.int .i64 t.pos))) := ⟨_, Lib.hid rfl⟩
 have C21 := Lib.hid (C20.out.mm (W' := w21) (C20.out.m.set 0 rfl (by rw [HW.out]; exact gr_trans (gr_trans (gr_trans (gr_set w20 T 0 (.int .i64 t.kind)) (gr_set (w20.setCell ⟨T, 0, none⟩ (.int .i64 t.kind)) T 1 (.string ⟨t.text.toArray⟩))) (gr_set ((w20.setCell ⟨T, 0, none⟩ (.int .i64 t.kind)).setCell ⟨T, 1, none⟩ (.string ⟨t.text.toArray⟩)) T 2 (.int .i64 t.val))) (gr_set (((w20.setCell ⟨T, 0, none⟩ (.int .i64 t.kind)).setCell ⟨T, 1, none⟩ (.string ⟨t.text.toArray⟩)).setCell ⟨T, 2, none⟩ (.int .i64 t.val)) T 3 (.int .i64 t.pos))) (by rw [HW.out]; exact (heap_set (j := 3) (.int .i64 t.pos) (heap_set (j := 2) (.int .i64 t.val) (heap_set (j := 1) (.string ⟨t.text.toArray⟩) (heap_set (j := 0) (.int .i64 t.kind) (C20.out.m.b 0 rfl))))))))
 go_simp
 refine hK.out _ _ ⟨cell_keep' (gr_fresh (gr_new (gr_below HB20.out none) (set4_gr w20 T (.int .i64 t.kind) (.string ⟨t.text.toArray⟩) (.int .i64 t.val) (.int .i64 t.pos)) hx20)) y0.out, cell_keep' (gr_fresh (gr_new (gr_below HB20.out none) (set4_gr w20 T (.int .i64 t.kind) (.string ⟨t.text.toArray⟩) (.int .i64 t.val) (.int .i64 t.pos)) hx20)) y1.out, cell_keep' (gr_fresh (gr_new (gr_below HB20.out none) (set4_gr w20 T (.int .i64 t.kind) (.string ⟨t.text.toArray⟩) (.int .i64 t.val) (.int .i64 t.pos)) hx20)) y2.out, cell_keep' (gr_fresh (gr_new (gr_below HB20.out none) (set4_gr w20 T (.int .i64 t.kind) (.string ⟨t.text.toArray⟩) (.int .i64 t.val) (.int .i64 t.pos)) hx20)) y3.out, cell_keep' (gr_fresh (gr_new (gr_below HB20.out none) (set4_gr w20 T (.int .i64 t.kind) (.string ⟨t.text.toArray⟩) (.int .i64 t.val) (.int .i64 t.pos)) hx20)) y4.out, cell_keep' (gr_fresh (gr_new (gr_below HB20.out none) (set4_gr w20 T (.int .i64 t.kind) (.string ⟨t.text.toArray⟩) (.int .i64 t.val) (.int .i64 t.pos)) hx20)) y5.out⟩ (fun _ => ?_)
 clear hK K
 try simp only [Act.put, q0, q1, q2]
 refine wpAnyH_done (by kernel_rfl) ?_ _
 rw [← HW.out]
 clear HW C20 l0 c00 f00 c01 f01 c02 f02 c03 f03
 have C22 := Lib.hid (C21.out.nrm (bs' := [(T, #[.int .i64 t.kind, .string ⟨t.text.toArray⟩, .int .i64 t.val, .int .i64 t.pos], 59), _]) rfl)
 clear C21
 clear y0 y1 y2 y3 y4 y5 hcap a1 a2 HB20 hx20
 cases b with
 | true =>
   have p2 := cell_of_blkP C22.out.ps.blk (j := 2) (u := .bool true) rfl
   obtain ⟨l0, c00, f00, c01, f01, c02, f02, c03, f03⟩ := cells4 (C22.out.m.b 0 rfl)
   obtain ⟨l1, c10, f10, c11, f11, c12, f12, c13, f13, c14, f14, c15, f15⟩ := cells6 (C22.out.m.b 1 rfl)
   go_wp2_with fail
   exact C22.out.dead.retE (x := Pa.leaf 0) 1 rfl (xo_other HT.out (.inl rfl) (fun h => absurd (show (0 : Int) = 3 from h) (by decide))) Tryz.results76 rfl rfl (fun U b o => ⟨bd_leaf (by decide) (by decide), .nil none 0⟩)
 | false =>
   by_cases hk1 : t.kind = 1
   ·have hkn := HKL.out (by omega)
    have HK := Lib.hid hk1
    have k1 : ((t.kind : Int) == 1) = true := (kind_beq t.kind 1).trans (beq_iff_eq.2 hk1)
    have p2 := cell_of_blkP C22.out.ps.blk (j := 2) (u := .bool false) rfl
    obtain ⟨l0, c00, f00, c01, f01, c02, f02, c03, f03⟩ := cells4 (C22.out.m.b 0 rfl)
    go_upto_region 5 with fail
    clear p2 l0 c00 f00 c01 f01 c02 f02 c03 f03
    have C23 := Lib.hid (C22.out.at_ (G' := fun _ ts => .ok (Pa.num t.val) ts.tail) (fun f => by rw [pO_at hkn HT.out, if_pos HK.out, Pa.rest_tail C22.out.hL hkn]))
    clear C22
    have p1 := cell_of_blkP C23.out.ps.blk (j := 1) (u := .int .i64 k) rfl
    have g1 := blk_free C23.out.ps.blk 1
    have hfew := C23.out.hL.few
    have hplt := C23.out.m.pw
    obtain ⟨w24, HW⟩ : ∃ q, Hid (q = w21.setCell ⟨P, 1, none⟩ (.int .i64 ((k : Nat) + 1))) := ⟨_, Lib.hid rfl⟩
    have C24 := Lib.hid (C23.out.inc (G := fun _ ts => .ok (Pa.num t.val) ts) hkn)
    rw [← HW.out] at C24
    go_upto_region 6 with fail
    rw [← HW.out]
    clear HW p1 g1 hfew hplt C23
    obtain ⟨l0, c00, f00, c01, f01, c02, f02, c03, f03⟩ := cells4 (C24.out.m.b 0 rfl)
    obtain ⟨l1, c10, f10, c11, f11, c12, f12, c13, f13, c14, f14, c15, f15⟩ := cells6 (C24.out.m.b 1 rfl)
    go_wp2_with fail
    exact C24.out.retE (x := Pa.num t.val) 1 rfl (xo_other HT.out (.inr (by have := HK.out; omega)) (fun h => absurd (show (0 : Int) = 3 from h) (by decide))) Tryz.results76 rfl rfl (fun U b o => ⟨bd_num HV.out, .nil none 0⟩)
   ·by_cases hk2 : t.kind = 2
    ·have hkn := HKL.out (by omega)
     have HK := Lib.hid hk2
     have k1 : ((t.kind : Int) == 1) = false := (kind_beq t.kind 1).trans (beq_eq_false_iff_ne.2 hk1)
     have k2 : ((t.kind : Int) == 2) = true := (kind_beq t.kind 2).trans (beq_iff_eq.2 hk2)
     have p2 := cell_of_blkP C22.out.ps.blk (j := 2) (u := .bool false) rfl
     obtain ⟨l0, c00, f00, c01, f01, c02, f02, c03, f03⟩ := cells4 (C22.out.m.b 0 rfl)
     go_upto_region 8 with fail
     clear p2 l0 c00 f00 c01 f01 c02 f02 c03 f03
     have C25 := Lib.hid (C22.out.at_ (G' := fun _ ts => .ok (Pa.var ⟨t.text.toArray⟩) ts.tail) (fun f => by rw [pO_at hkn HT.out, if_neg (by have := HK.out; omega), if_pos HK.out, Pa.rest_tail C22.out.hL hkn]))
     clear C22
     have p1 := cell_of_blkP C25.out.ps.blk (j := 1) (u := .int .i64 k) rfl
     have g1 := blk_free C25.out.ps.blk 1
     have hfew := C25.out.hL.few
     have hplt := C25.out.m.pw
     obtain ⟨w26, HW⟩ : ∃ q, Hid (q = w21.setCell ⟨P, 1, none⟩ (.int .i64 ((k : Nat) + 1))) := ⟨_, Lib.hid rfl⟩
     have C26 := Lib.hid (C25.out.inc (G := fun _ ts => .ok (Pa.var ⟨t.text.toArray⟩) ts) hkn)
     rw [← HW.out] at C26
     go_upto_region 9 with fail
     rw [← HW.out]
     clear HW p1 g1 hfew hplt C25
     obtain ⟨l0, c00, f00, c01, f01, c02, f02, c03, f03⟩ := cells4 (C26.out.m.b 0 rfl)
     obtain ⟨l1, c10, f10, c11, f11, c12, f12, c13, f13, c14, f14, c15, f15⟩ := cells6 (C26.out.m.b 1 rfl)
     go_wp2_with fail
     exact C26.out.retE (x := Pa.var ⟨t.text.toArray⟩) 1 rfl (xo_name HT.out) Tryz.results76 rfl rfl (fun U b o => ⟨bd_var hsz, .nil none 0⟩)
    ·have HK1 := Lib.hid hk1
     have HK2 := Lib.hid hk2
     have k1 : ((t.kind : Int) == 1) = false := (kind_beq t.kind 1).trans (beq_eq_false_iff_ne.2 hk1)
     have k2 : ((t.kind : Int) == 2) = false := (kind_beq t.kind 2).trans (beq_eq_false_iff_ne.2 hk2)
     have p2 := cell_of_blkP C22.out.ps.blk (j := 2) (u := .bool false) rfl
     obtain ⟨l0, c00, f00, c01, f01, c02, f02, c03, f03⟩ := cells4 (C22.out.m.b 0 rfl)
     go_upto_region 10 with fail
     clear p2 l0 c00 f00 c01 f01 c02 f02 c03 f03
     have C27 := Lib.hid (C22.out.at_ (pO_othR C22.out.hL C22.out.le HT.out HK1.out HK2.out))
     clear C22
     go_wp2_with fail
     refine (C27.out.take ⟨#[110, 105, 108]⟩ (by decide)).mono ?_
     rintro e w28 (⟨rfl, hlt29, -, C28⟩ | ⟨rfl, C28⟩)
     ·clear C27
      obtain ⟨l1, c10, f10, c11, f11, c12, f12, c13, f13, c14, f14, c15, f15⟩ := cells6 (C28.out.m.b 1 rfl)
      go_wp2_with fail
      exact C28.out.retE (x := Pa.leaf 1) 1 rfl (xo_other HT.out (.inr HK2.out) (fun h => absurd (show (1 : Int) = 3 from h) (by decide))) Tryz.results76 rfl rfl (fun U b o => ⟨bd_leaf (by decide) (by decide), .nil none 0⟩)
     ·clear C27
      go_wp2_with fail
      refine (C28.out.take ⟨#[116, 104, 105, 115]⟩ (by decide)).mono ?_
      rintro e w30 (⟨rfl, hlt31, -, C30⟩ | ⟨rfl, C30⟩)
      ·clear C28
       obtain ⟨l1, c10, f10, c11, f11, c12, f12, c13, f13, c14, f14, c15, f15⟩ := cells6 (C30.out.m.b 1 rfl)
       go_wp2_with fail
       exact C30.out.retE (x := Pa.leaf 2) 1 rfl (xo_other HT.out (.inr HK2.out) (fun h => absurd (show (2 : Int) = 3 from h) (by decide))) Tryz.results76 rfl rfl (fun U b o => ⟨bd_leaf (by decide) (by decide), .nil none 0⟩)
      ·clear C28
       go_wp2_with fail
       refine (C30.out.take ⟨#[40]⟩ (by decide)).mono ?_
       rintro e w32 (⟨rfl, hlt33, -, C32⟩ | ⟨rfl, C32⟩)
       ·clear C30
        go_wp2_with fail
        refine (C32.out.callE (HE.out _ _ _ C32.out.ps (by omega))).mono ?_
        rintro e w34 ⟨x1, p1, N1, c1, k1, b1, rfl, hlt1, hn1, -, C34⟩
        clear C32
        obtain ⟨A, w35, HX, HW, hx35, C35⟩ := C34.out.boxE #[.int .i64 x1.kind, .int .i64 x1.op, .int .i64 x1.int, .string x1.name, .bool x1.at_, .slice p1 N1 c1] 33
        go_upto_region 16 with fail
        rw [← HX.out, ← HW.out]
        clear HX HW C34
        go_wp2_with fail
        refine (C35.out.exp ⟨#[41]⟩ (by decide)).mono ?_
        rintro e w37 ⟨k36, b36, rfl, hle36, hn36, HWD, C37⟩
        clear C35
        obtain ⟨l0, c00, f00, c01, f01, c02, f02, c03, f03, c04, f04, c05, f05⟩ := cells6 (C37.out.m.b 0 rfl)
        obtain ⟨l2, c20, f20, c21, f21, c22, f22, c23, f23, c24, f24, c25, f25⟩ := cells6 (C37.out.m.b 2 rfl)
        go_wp2_with fail
        exact C37.out.retE (x := x1) 2 rfl (xo_paren HT.out HK2.out (by omega) HWD.out) Tryz.results76 rfl rfl (fun U b o => o 0 rfl)
       ·clear C30
        go_wp2_with fail
        refine (C32.out.take ⟨#[110, 101, 119]⟩ (by decide)).mono ?_
        rintro e w38 (⟨rfl, hlt39, -, C38⟩ | ⟨rfl, C38⟩)
        ·clear C32
         go_wp2_with fail
         refine (C38.out.word 3 (by decide)).mono ?_
         rintro e w40 ⟨s1, z1, z2, z3, k1, b1, rfl, hsz1, hle1, hn1, C40⟩
         clear C38
         obtain ⟨A, w41, HX, HW, hx41, C41⟩ := C40.out.boxE #[.int .i64 5, .int .i64 0, .int .i64 0, .string s1, .bool false, .slice none 0 0] 33
         go_upto_region 20 with fail
         rw [← HX.out, ← HW.out]
         clear HX HW C40
         go_wp2_with fail
         refine (C41.out.callL (HA.out _ _ _ C41.out.ps (by omega))).mono ?_
         rintro e w42 ⟨tr2, p2, N2, c2, k2, b2, rfl, HTL2, hlt2, hn2, -, C42⟩
         clear C41
         obtain ⟨l0, c00, f00, c01, f01, c02, f02, c03, f03, c04, f04, c05, f05⟩ := cells6 (C42.out.m.b 0 rfl)
         obtain ⟨w43, HW⟩ : ∃ q, Hid (q = (w42.setCell ⟨A, 5, none⟩ (.slice p2 N2 c2))) := ⟨_, Lib.hid rfl⟩
         have C43 := Lib.hid (C42.out.mm (W' := w43) (C42.out.m.set 0 rfl (by rw [HW.out]; exact gr_set w42 A 5 (.slice p2 N2 c2)) (by rw [HW.out]; exact (heap_set (j := 5) (.slice p2 N2 c2) (C42.out.m.b 0 rfl)))))
         go_upto_region 21 with fail
         rw [← HW.out]
         clear HW C42 l0 c00 f00 c01 f01 c02 f02 c03 f03 c04 f04 c05 f05
         have C44 := Lib.hid (C43.out.nrm (bs' := [(A, #[.int .i64 5, .int .i64 0, .int .i64 0, .string s1, .bool false, .slice p2 N2 c2], 33), _, _]) rfl)
         clear C43
         go_wp2_with fail
         refine (C44.out.take ⟨#[97, 116]⟩ (by decide)).mono ?_
         rintro e w45 (⟨rfl, hlt46, -, C45⟩ | ⟨rfl, C45⟩)
         ·clear C44
          obtain ⟨l0, c00, f00, c01, f01, c02, f02, c03, f03, c04, f04, c05, f05⟩ := cells6 (C45.out.m.b 0 rfl)
          obtain ⟨w47, HW⟩ : ∃ q, Hid (q = (w45.setCell ⟨A, 4, none⟩ (.bool true))) := ⟨_, Lib.hid rfl⟩
          have C47 := Lib.hid (C45.out.mm (W' := w47) (C45.out.m.set 0 rfl (by rw [HW.out]; exact gr_set w45 A 4 (.bool true)) (by rw [HW.out]; exact (heap_set (j := 4) (.bool true) (C45.out.m.b 0 rfl)))))
          go_upto_region 23 with fail
          rw [← HW.out]
          clear HW C45 l0 c00 f00 c01 f01 c02 f02 c03 f03 c04 f04 c05 f05
          have C48 := Lib.hid (C47.out.nrm (bs' := [(A, #[.int .i64 5, .int .i64 0, .int .i64 0, .string s1, .bool true, .slice p2 N2 c2], 33), _, _]) rfl)
          clear C47
          obtain ⟨l0, c00, f00, c01, f01, c02, f02, c03, f03, c04, f04, c05, f05⟩ := cells6 (C48.out.m.b 0 rfl)
          obtain ⟨G49, w49, HX, HW, hx49, C49⟩ := C48.out.boxE #[] 33
          clear C48
          go_wp2_with (at_builtin; rw [← HX.out, ← HW.out]; refine C49.out.app0W tkE 0 rfl HTL2.out rfl _ _ rfl rfl rfl ?_; intro p8 N8 c8 w50 HN8 C50)
          clear HX HW C49 hx49 l0 c00 f00 c01 f01 c02 f02 c03 f03 c04 f04 c05 f05
          refine (C50.out.callE (HU.out _ _ _ C50.out.ps (by omega))).mono ?_
          rintro e w51 ⟨x3, p3, N3, c3, k3, b3, rfl, hlt3, hn3, -, C51⟩
          clear C50
          obtain ⟨l0, c00, f00, c01, f01, c02, f02, c03, f03, c04, f04, c05, f05⟩ := cells6 (C51.out.m.b 0 rfl)
          obtain ⟨X52, w52, HX, HW, hx52, C52⟩ := C51.out.boxE #[.int .i64 x3.kind, .int .i64 x3.op, .int .i64 x3.int, .string x3.name, .bool x3.at_, .slice p3 N3 c3] 33
          clear C51
          go_upto_region 24 with (at_builtin; rw [← HX.out, ← HW.out]; refine C52.out.pushW tkE (x := ((x3, .slice p3 N3 c3) : ET)) rfl HTL2.out rfl _ _ rfl rfl rfl ?_; intro p9 N9 c9 w53 HN9 C53; obtain ⟨m0, m1, m2, m3, m4, m5, m6, m7, m8, m9, m10, m11, m12⟩ := cells6 (C53.out.m.b 0 rfl))
          clear HX HW C52 hx52 m0 m1 m2 m3 m4 m5 m6 m7 m8 m9 m10 m11 m12 l0 c00 f00 c01 f01 c02 f02 c03 f03 c04 f04 c05 f05
          obtain ⟨w54, HW⟩ : ∃ q, Hid (q = (w53.setCell ⟨A, 5, none⟩ (.slice p9 N9 c9))) := ⟨_, Lib.hid rfl⟩
          have C54 := Lib.hid (C53.out.mm (W' := w54) (C53.out.m.set 0 rfl (by rw [HW.out]; exact gr_set w53 A 5 (.slice p9 N9 c9)) (by rw [HW.out]; exact (heap_set (j := 5) (.slice p9 N9 c9) (C53.out.m.b 0 rfl)))))
          rw [← HW.out]
          clear HW C53
          have C55 := Lib.hid (C54.out.nrm (bs' := [(A, #[.int .i64 5, .int .i64 0, .int .i64 0, .string s1, .bool true, .slice p9 N9 c9], 33), _, _]) rfl)
          clear C54
          obtain ⟨l0, c00, f00, c01, f01, c02, f02, c03, f03, c04, f04, c05, f05⟩ := cells6 (C55.out.m.b 0 rfl)
          obtain ⟨l2, c20, f20, c21, f21, c22, f22, c23, f23, c24, f24, c25, f25⟩ := cells6 (C55.out.m.b 2 rfl)
          go_wp2_with fail
          exact C55.out.retE (x := Pa.new s1 true (tr2.map Prod.fst ++ [x3])) 2 rfl (xo_other HT.out (.inr HK2.out) (fun h => absurd (show (5 : Int) = 3 from h) (by decide))) Tryz.results76 rfl rfl (fun U b o => ⟨bd_new hsz1 _ _, (List.map_append (f := (Prod.fst : ET → Tr.E)) (l₁ := tr2) (l₂ := [(x3, .slice p3 N3 c3)])) ▸ o 0 rfl⟩)
         ·clear C44
          obtain ⟨l0, c00, f00, c01, f01, c02, f02, c03, f03, c04, f04, c05, f05⟩ := cells6 (C45.out.m.b 0 rfl)
          obtain ⟨l2, c20, f20, c21, f21, c22, f22, c23, f23, c24, f24, c25, f25⟩ := cells6 (C45.out.m.b 2 rfl)
          go_wp2_with fail
          exact C45.out.retE (x := Pa.new s1 false (tr2.map Prod.fst)) 2 rfl (xo_other HT.out (.inr HK2.out) (fun h => absurd (show (5 : Int) = 3 from h) (by decide))) Tryz.results76 rfl rfl (fun U b o => ⟨bd_new hsz1 _ _, o 0 rfl⟩)
        ·clear C32
         have p2 := cell_of_blkP C38.out.ps.blk (j := 2) (u := .bool false) rfl
         have g2 := blk_free C38.out.ps.blk 2
         have hplt := C38.out.m.pw
         obtain ⟨w56, HW⟩ : ∃ q, Hid (q = w38.setCell ⟨P, 2, none⟩ (.bool true)) := ⟨_, Lib.hid rfl⟩
         have C56 := Lib.hid (C38.out.err (G' := fun _ ts => .ok (Pa.leaf 0) ts) (fun _ _ => rfl))
         rw [← HW.out] at C56
         go_upto_region 26 with fail
         rw [← HW.out]
         clear HW p2 g2 hplt C38
         obtain ⟨l1, c10, f10, c11, f11, c12, f12, c13, f13, c14, f14, c15, f15⟩ := cells6 (C56.out.m.b 1 rfl)
         go_wp2_with fail
         exact C56.out.retE (x := Pa.leaf 0) 1 rfl (xo_other HT.out (.inr HK2.out) (fun h => absurd (show (0 : Int) = 3 from h) (by decide))) Tryz.results76 rfl rfl (fun U b o => ⟨bd_leaf (by decide) (by decide), .nil none 0⟩)
structure RAll (L : List Lex.Tok) (n tbk tc P m : Nat) : Prop where
 e0 : RE L n tbk tc P 0 0 m
 e6 : RE L n tbk tc P 6 6 m
 e2 : RE L n tbk tc P 2 2 m
 o : RO L n tbk tc P m
 l : RLX L n tbk tc P m
theorem rall {L : List Lex.Tok} {n tbk tc P : Nat} (hL : Pa.TkL L n) : ∀ m, RAll L n tbk tc P m
 | m => by
   have ih : ∀ m', m' < m → RAll L n tbk tc P m' := fun m' _ => rall hL m'
   have lt : ∀ {k : Nat}, n - k < m → n - k ≤ n - k := fun _ => Nat.le_refl _
   have o := operandR_of hL (m := m) (fun k b w hp hk => (ih _ hk).e0 k b w hp (Nat.le_refl _)) (fun k b w hp hk => (ih _ hk).l k b w hp (Nat.le_refl _)) (fun k b w hp hk => (ih _ hk).e6 k b w hp (Nat.le_refl _))
   have e7 := expr7_of hL o
   have e6 := expr6_of hL e7 (fun k b w hp hk => (ih _ hk).e6 k b w hp (Nat.le_refl _))
   have e5 := expr5_of hL (leftR_of hL e6 [2, 3, 4] 3 rfl (by decide) (by decide))
   have e4 := expr4_of hL (leftR_of hL e5 [0, 1] 2 rfl (by decide) (by decide))
   have e3 := expr3_of hL e4
   have e2 := expr2_of hL e3 (fun k b w hp hk => (ih _ hk).e2 k b w hp (Nat.le_refl _))
   have e1 := expr1_of hL (leftR_of hL e2 [11] 1 rfl (by decide) (by decide))
   have e0 := expr0_of hL (leftR_of hL e1 [12] 1 rfl (by decide) (by decide))
   exact ⟨e0, e6, e2, o, exprsR_of hL e0⟩
 termination_by m => m
theorem exprR_any {L : List Lex.Tok} {n tbk tc P : Nat} (hL : Pa.TkL L n) (k : Nat) (b : Bool) (w : World) (hp : RS L n tbk tc P k b w) : Calls Tryz.prog 35 #[.pointer (some ⟨P, 0, none⟩), .int .i64 0] w (RQ L n tbk tc P k b (fun f ts => Pa.pE f 0 ts) rdE w) := (rall hL (n - k)).e0 k b w hp (Nat.le_refl _)
theorem operandR_any {L : List Lex.Tok} {n tbk tc P : Nat} (hL : Pa.TkL L n) (k : Nat) (b : Bool) (w : World) (hp : RS L n tbk tc P k b w) : Calls Tryz.prog 76 #[.pointer (some ⟨P, 0, none⟩)] w (RX L n tbk tc P k b (fun f ts => Pa.pO f ts) (hdn rdE w) (XO L k b) w) := (rall hL (n - k)).o k b w hp (Nat.le_refl _)
theorem exprsR_any {L : List Lex.Tok} {n tbk tc P : Nat} (hL : Pa.TkL L n) (k : Nat) (b : Bool) (w : World) (hp : RS L n tbk tc P k b w) : Calls Tryz.prog 125 #[.pointer (some ⟨P, 0, none⟩)] w (RX L n tbk tc P k b (fun f ts => Pa.pA f ts) (rdL w.heap.size) (fun _ _ _ => True) w) := (rall hL (n - k)).l k b w hp (Nat.le_refl _)
end Go.Proofs.YtdckddkalgnlpaaGreatDoor
namespace Go.Proofs.YtdckddkalgnlpaaGreatDoor
open Go.RowKit Go.Maps Pw
theorem slE_blk2 {w : World} {g : Nat} {x y : Tr.E} {a b : Value} {t : TypeId} (h : w.heap[g]? = some (.cells #[.int .i64 x.kind, .int .i64 x.op, .int .i64 x.int, .string x.name, .bool x.at_, a, .int .i64 y.kind, .int .i64 y.op, .int .i64 y.int, .string y.name, .bool y.at_, b] t (0, 0))) (hx : ReadET w (x, a)) (hy : ReadET w (y, b)) : SlE w (.slice (some ⟨g, 0, none⟩) 2 2) [x, y] :=
 slE_blk h [(x, a), (y, b)] (by simp) rfl (fun z hz => by
  simp only [List.mem_cons, List.not_mem_nil, or_false] at hz
  rcases hz with rfl | rfl
  ·exact hx
  ·exact hy)
set_option maxRecDepth 100000 in
set_option maxHeartbeats 8000000 in
theorem assign_any {L : List Lex.Tok} {n tbk tc P : Nat} (hL : Pa.TkL L n) (kd : Nat) (hkd : kd ≤ 9) (k : Nat) (w : World) (hp : PS L n tbk tc P k w) : Calls Tryz.prog 196 #[.pointer (some ⟨P, 0, none⟩), .int .i64 kd] w (PQ L n tbk tc P k (fun f ts => Pa.pSet f kd ts) rdS w) := by
 have HKD := Lib.hid hkd
 obtain ⟨w1, HW, C1⟩ := (Cx.start hL hp (fun f ts => Pa.pSet f kd ts)).boxR #[.int .i64 0, .string ⟨#[]⟩, .slice none 0 0, .slice none 0 0, .slice none 0 0] 94
 clear hL hp
 go_enter Tryz.func196, Tryz.ntmps196
 go_upto_region 1 with fail
 rw [← HW.out]
 clear HW
 clear hkd
 go_wp2_with fail
 refine (C1.out.name).mono ?_
 rintro e w2 (⟨s1, rfl, hlt1, hsz1, C2⟩ | ⟨t, rfl, HB⟩)
 ·clear C1
  go_wp2_with fail
  refine (C2.out.exp ⟨#[61]⟩ (by decide)).mono ?_
  rintro e w4 (⟨rfl, hlt3, C4⟩ | ⟨t, rfl, HB⟩)
  ·clear C2
   go_wp2_with fail
   refine (C4.out.callE (pexpr_any C4.out.hL _ _ C4.out.ps)).mono ?_
   rintro e w5 (⟨x2, p2, N2, c2, k2, rfl, hlt2, hn2, C5⟩ | ⟨t, rfl, HB⟩)
   ·clear C4
    obtain ⟨l0, c00, f00, c01, f01, c02, f02, c03, f03, c04, f04⟩ := cells5 (C5.out.m.b 0 rfl)
    go_wp2_with fail
    exact C5.out.retSb (x := .mk kd s1 [x2] [] []) 0 rfl (by omega) Tryz.results196 rfl rfl (fun U g b o => ⟨bd_stmt HKD.out hsz1, slE_blk1 g (o 0 rfl).1 (o 0 rfl).2, .nil none 0, .nil none 0⟩)
   ·go_wp2_with fail
    exact ⟨rfl, HB.out.pq⟩
  ·go_wp2_with fail
   exact ⟨rfl, HB.out.pq⟩
 ·go_wp2_with fail
  exact ⟨rfl, HB.out.pq⟩
def Pa.sendQ (f : Nat) (a : Tr.E) (ts : Pa.Toks) : Pa.R Tr.S := (Pa.expect [46] ts).bind fun _ r => (Pa.word 2 r).bind fun n r => Pa.pSend f a n r
def Pa.sendF (f : Nat) (ts : Pa.Toks) : Pa.R Tr.S := (Pa.pO f ts).bind fun a r => Pa.sendQ f a r
theorem is_excl {s t : Pa.Bytes} {ts : Pa.Toks} (h : Pa.is s ts = true) (hn : s ≠ t) : Pa.is t ts = false := by
 cases ts with
 | nil => rfl
 | cons x r =>
   have h1 : (x.text == s && (x.kind == 4 || x.kind == 5)) = true := h
   rw [Bool.and_eq_true] at h1
   show (x.text == t && (x.kind == 4 || x.kind == 5)) = false
   rw [beq_iff_eq.1 h1.1, beq_eq_false_iff_ne.2 hn]
   rfl
theorem pSend_s (f : Nat) (a : Tr.E) (n : ByteArray) (ts : Pa.Toks) : Pa.pSend (f + 1) a n ts = if Pa.is [46] ts then (Pa.word 2 ts.tail).bind fun m r => Pa.pSend f (Pa.fld n a) m r else (Pa.pA f ts).bind fun l r => .ok (.mk 5 n (a :: l) [] []) r := by rw [Pa.pSend]
theorem send_args {f : Nat} {a : Tr.E} {n : ByteArray} {ts : Pa.Toks} (h : Pa.is [40] ts = true) : Pa.pSend (f + 1) a n ts = (Pa.pA f ts).bind fun l r => .ok (.mk 5 n (a :: l) [] []) r := by
 rw [pSend_s, is_excl (t := [46]) h (by decide)]
 rfl
theorem send_more {e : Tr.E} {n : ByteArray} {ts : Pa.Toks} {x : Pa.R Tr.S} (h : Pa.is [40] ts = false) (hb : Pa.Ev (fun f => Pa.sendQ f (Pa.fld n e) ts) x) : Pa.Ev (fun f => Pa.pSend f e n ts) x := by
 cases hd : Pa.is [46] ts with
 | true =>
   refine .step (q := fun f => Pa.sendQ f (Pa.fld n e) ts) (fun f => ?_) hb
   rw [pSend_s, hd, if_pos rfl]
   unfold Pa.sendQ Pa.expect
   rw [hd, if_pos rfl]
   rfl
 | false =>
   refine .step (q := fun f => (Pa.pA f ts).bind fun l r => .ok (.mk 5 n (e :: l) [] []) r) (fun f => ?_) (.step (q := fun f => Pa.sendQ f (Pa.fld n e) ts) (fun f => ?_) hb)
   ·rw [pSend_s, hd, if_neg (by decide)]
   ·unfold Pa.sendQ Pa.expect
    rw [hd, if_neg (by decide)]
    show (Pa.pA (f + 1) ts).bind _ = _
    rw [Pa.pA_s]
    unfold Pa.expect
    rw [h, if_neg (by decide)]
    rfl
set_option maxRecDepth 100000 in
set_option maxHeartbeats 8000000 in
theorem send_any {L : List Lex.Tok} {n tbk tc P : Nat} (hL : Pa.TkL L n) (k : Nat) (w : World) (hp : PS L n tbk tc P k w) : Calls Tryz.prog 197 #[.pointer (some ⟨P, 0, none⟩)] w (PQ L n tbk tc P k (fun f ts => Pa.sendF f ts) rdS w) := by
 obtain ⟨w6, HW, C6⟩ := (Cx.start hL hp (fun f ts => Pa.sendF f ts)).boxR #[.int .i64 0, .string ⟨#[]⟩, .slice none 0 0, .slice none 0 0, .slice none 0 0] 94
 clear hL hp
 go_enter Tryz.func197, Tryz.ntmps197
 go_upto_region 1 with fail
 rw [← HW.out]
 clear HW
 have C7 := Lib.hid (C6.out.spc (G' := fun f ts => (Pa.pO f ts).bind fun a r => Pa.sendQ f a r) (fun f ts => rfl))
 clear C6
 go_wp2_with fail
 refine (C7.out.callE (poperand_any C7.out.hL _ _ C7.out.ps)).mono ?_
 rintro e w8 (⟨x1, p1, N1, c1, k1, rfl, hlt1, hn1, C8⟩ | ⟨t, rfl, HB⟩)
 ·clear C7
  obtain ⟨X, w9, HX, HW, hx9, C9⟩ := C8.out.boxE #[.int .i64 x1.kind, .int .i64 x1.op, .int .i64 x1.int, .string x1.name, .bool x1.at_, .slice p1 N1 c1] 33
  go_wp2_with fail
  rw [← HX.out, ← HW.out]
  clear HX HW C8
  go_loopg [4] (n - k1) (fun gg s4 wr => ∃ k', gg = n - k' ∧ k < k' ∧ k' ≤ n ∧ ∃ (x : Tr.E) (p : Option Addr) (N c B : Nat), Hid (Cx L n tbk tc P k w (fun f => Pa.sendF f (Pa.rest L n k)) k' [(X, #[.int .i64 x.kind, .int .i64 x.op, .int .i64 x.int, .string x.name, .bool x.at_, .slice p N c], 33), (w.heap.size, #[.int .i64 0, .string ⟨#[]⟩, .slice none 0 0, .slice none 0 0, .slice none 0 0], 94)] [im B (fun U => ReadET U (x, .slice p N c))] (fun f ts => Pa.sendQ f x ts) wr))
  case atStart => exact ⟨k1, rfl, hlt1, hn1, x1, p1, N1, c1, _, C9⟩
  case round =>
   clear C9 hlt1 hn1 hx9
   obtain ⟨k', rfl, hltk, hnk, x, p, N, c, B, CR⟩ := hrel
   have C10 := Lib.hid (CR.out.spc (G' := fun f ts => (Pa.expect [46] ts).bind fun _ r => (Pa.word 2 r).bind fun n r => Pa.pSend f x n r) (fun f ts => rfl))
   clear CR
   go_wp2_with fail
   refine (C10.out.exp ⟨#[46]⟩ (by decide)).mono ?_
   rintro e w12 (⟨rfl, hlt11, C12⟩ | ⟨t, rfl, HB⟩)
   ·clear C10
    go_wp2_with fail
    refine (C12.out.name).mono ?_
    rintro e w13 (⟨s1, rfl, hlt1, hsz1, C13⟩ | ⟨t, rfl, HB⟩)
    ·clear C12
     go_wp2_with fail
     refine (C13.out.is ⟨#[40]⟩ (by decide)).mono ?_
     rintro e w15 (⟨rfl, HI14, C15⟩ | ⟨rfl, HI14, C15⟩)
     ·clear C13
      have C16 := Lib.hid (C15.out.at_ (G' := fun f ts => (Pa.pA f ts).bind fun l r => .ok (.mk 5 s1 (x :: l) [] []) r) (fun f => send_args HI14.out))
      clear C15
      go_upto_region 5 with fail
      obtain ⟨w17, HW, C17⟩ := C16.out.drewE
      refine wp_region_held_drew (S := fun _ => True) (by kernel_rfl) trivial (fun _ => ?_)
      rw [← HW.out]
      clear HW C16
      refine rT 0 (some 14) ?_
      try simp only [Act.put, q0, q1, q2]
      refine rT 3 (some 17) ?_
      try simp only [Act.put, q0, q1, q2]
      refine rT 4 (some 18) ?_
      try simp only [Act.put, q0, q1, q2]
      refine rT 5 (some 19) ?_
      try simp only [Act.put, q0, q1, q2]
      refine rR2 1 (some 15) 6 (some 20) (fun K hK => ?_) (fun K hK => ?_)
      ·obtain ⟨l0, c00, f00, c01, f01, c02, f02, c03, f03, c04, f04, c05, f05⟩ := cells6 (C17.out.m.b 0 rfl)
       go_simp
       refine hK.out _ _ trivial (fun _ => ?_)
       clear hK K
       try simp only [Act.put, q0, q1, q2]
       clear l0 c00 f00 c01 f01 c02 f02 c03 f03 c04 f04 c05 f05
       refine rR2 2 (some 16) 6 (some 20) (fun K hK => ?_) (fun K hK => ?_)
       ·obtain ⟨G, w18, HX, HW, hx18, C18⟩ := C17.out.boxE #[.int .i64 x.kind, .int .i64 x.op, .int .i64 x.int, .string x.name, .bool x.at_, .slice p N c] 33
        go_simp
        refine hK.out _ _ trivial (fun _ => ?_)
        clear hK K
        try simp only [Act.put, q0, q1, q2]
        rw [← HX.out, ← HW.out]
        clear HX HW C17
        refine rR1 6 (some 20) (fun K hK => ?_)
        go_simp
        refine (C18.out.callL (plist_any C18.out.hL _ _ _ C18.out.ps (Nat.le_refl _))).mono ?_
        rintro e w19 (⟨tr9, p9, N9, c9, k9, rfl, HTL9, hlt9, hn9, C19⟩ | ⟨t, rfl, HB⟩)
        ·clear C18
         go_wp2_with fail
         refine hK.out _ _ trivial (fun _ => ?_)
         clear hK K
         try simp only [Act.put, q0, q1, q2]
         refine rR1 7 (some 21) (fun K hK => ?_)
         refine C19.out.appS tkE 1 rfl 0 rfl rfl HTL9.out (by rfl) _ _ (by rfl) (by rfl) (by rfl) ?_
         intro p8 N8 c8 w20 C20
         clear C19
         refine hK.out _ _ trivial (fun _ => ?_)
         clear hK K
         try simp only [Act.put, q0, q1, q2]
         refine rT 8 (some 22) ?_
         try simp only [Act.put, q0, q1, q2]
         refine rR1 9 none (fun K hK => ?_)
         obtain ⟨l1, c10, f10, c11, f11, c12, f12, c13, f13, c14, f14⟩ := cells5 (C20.out.m.b 1 rfl)
         go_simp
         refine hK.out _ _ trivial (fun _ => ?_)
         clear hK K
         try simp only [Act.put, q0, q1, q2]
         refine wpAnyH_done (by kernel_rfl) ?_ _
         clear l1 c10 f10 c11 f11 c12 f12 c13 f13 c14 f14
         go_wp2_with fail
         exact C20.out.retS (x := .mk 5 s1 (x :: tr9.map Prod.fst) [] []) 1 rfl (by omega) Tryz.results197 rfl rfl (fun U b o => ⟨bd_stmt (k := 5) (by decide) hsz1, o 0 rfl, .nil none 0, .nil none 0⟩)
        ·go_wp2_with fail
         exact ⟨rfl, HB.out.pq⟩
       ·go_simp
        refine (C17.out.callL (plist_any C17.out.hL _ _ _ C17.out.ps (Nat.le_refl _))).mono ?_
        rintro e w21 (⟨tr9, p9, N9, c9, k9, rfl, HTL9, hlt9, hn9, C21⟩ | ⟨t, rfl, HB⟩)
        ·clear C17
         go_wp2_with fail
         refine hK.out _ _ trivial (fun _ => ?_)
         clear hK K
         try simp only [Act.put, q0, q1, q2]
         refine rR1 2 (some 16) (fun K hK => ?_)
         obtain ⟨G, w22, HX, HW, hx22, C22⟩ := C21.out.boxE #[.int .i64 x.kind, .int .i64 x.op, .int .i64 x.int, .string x.name, .bool x.at_, .slice p N c] 33
         go_simp
         refine hK.out _ _ trivial (fun _ => ?_)
         clear hK K
         try simp only [Act.put, q0, q1, q2]
         rw [← HX.out, ← HW.out]
         clear HX HW C21
         refine rR1 7 (some 21) (fun K hK => ?_)
         refine C22.out.appS tkE 1 rfl 0 rfl rfl HTL9.out (by rfl) _ _ (by rfl) (by rfl) (by rfl) ?_
         intro p8 N8 c8 w23 C23
         clear C22
         refine hK.out _ _ trivial (fun _ => ?_)
         clear hK K
         try simp only [Act.put, q0, q1, q2]
         refine rT 8 (some 22) ?_
         try simp only [Act.put, q0, q1, q2]
         refine rR1 9 none (fun K hK => ?_)
         obtain ⟨l1, c10, f10, c11, f11, c12, f12, c13, f13, c14, f14⟩ := cells5 (C23.out.m.b 1 rfl)
         go_simp
         refine hK.out _ _ trivial (fun _ => ?_)
         clear hK K
         try simp only [Act.put, q0, q1, q2]
         refine wpAnyH_done (by kernel_rfl) ?_ _
         clear l1 c10 f10 c11 f11 c12 f12 c13 f13 c14 f14
         go_wp2_with fail
         exact C23.out.retS (x := .mk 5 s1 (x :: tr9.map Prod.fst) [] []) 1 rfl (by omega) Tryz.results197 rfl rfl (fun U b o => ⟨bd_stmt (k := 5) (by decide) hsz1, o 0 rfl, .nil none 0, .nil none 0⟩)
        ·go_wp2_with fail
         exact ⟨rfl, HB.out.pq⟩
      ·go_simp
       refine (C17.out.callL (plist_any C17.out.hL _ _ _ C17.out.ps (Nat.le_refl _))).mono ?_
       rintro e w24 (⟨tr9, p9, N9, c9, k9, rfl, HTL9, hlt9, hn9, C24⟩ | ⟨t, rfl, HB⟩)
       ·clear C17
        go_wp2_with fail
        refine hK.out _ _ trivial (fun _ => ?_)
        clear hK K
        try simp only [Act.put, q0, q1, q2]
        refine rR1 1 (some 15) (fun K hK => ?_)
        obtain ⟨l0, c00, f00, c01, f01, c02, f02, c03, f03, c04, f04, c05, f05⟩ := cells6 (C24.out.m.b 0 rfl)
        go_simp
        refine hK.out _ _ trivial (fun _ => ?_)
        clear hK K
        try simp only [Act.put, q0, q1, q2]
        clear l0 c00 f00 c01 f01 c02 f02 c03 f03 c04 f04 c05 f05
        refine rR1 2 (some 16) (fun K hK => ?_)
        obtain ⟨G, w25, HX, HW, hx25, C25⟩ := C24.out.boxE #[.int .i64 x.kind, .int .i64 x.op, .int .i64 x.int, .string x.name, .bool x.at_, .slice p N c] 33
        go_simp
        refine hK.out _ _ trivial (fun _ => ?_)
        clear hK K
        try simp only [Act.put, q0, q1, q2]
        rw [← HX.out, ← HW.out]
        clear HX HW C24
        refine rR1 7 (some 21) (fun K hK => ?_)
        refine C25.out.appS tkE 1 rfl 0 rfl rfl HTL9.out (by rfl) _ _ (by rfl) (by rfl) (by rfl) ?_
        intro p8 N8 c8 w26 C26
        clear C25
        refine hK.out _ _ trivial (fun _ => ?_)
        clear hK K
        try simp only [Act.put, q0, q1, q2]
        refine rT 8 (some 22) ?_
        try simp only [Act.put, q0, q1, q2]
        refine rR1 9 none (fun K hK => ?_)
        obtain ⟨l1, c10, f10, c11, f11, c12, f12, c13, f13, c14, f14⟩ := cells5 (C26.out.m.b 1 rfl)
        go_simp
        refine hK.out _ _ trivial (fun _ => ?_)
        clear hK K
        try simp only [Act.put, q0, q1, q2]
        refine wpAnyH_done (by kernel_rfl) ?_ _
        clear l1 c10 f10 c11 f11 c12 f12 c13 f13 c14 f14
        go_wp2_with fail
        exact C26.out.retS (x := .mk 5 s1 (x :: tr9.map Prod.fst) [] []) 1 rfl (by omega) Tryz.results197 rfl rfl (fun U b o => ⟨bd_stmt (k := 5) (by decide) hsz1, o 0 rfl, .nil none 0, .nil none 0⟩)
       ·go_wp2_with fail
        exact ⟨rfl, HB.out.pq⟩
     ·clear C13
      obtain ⟨l0, c00, f00, c01, f01, c02, f02, c03, f03, c04, f04, c05, f05⟩ := cells6 (C15.out.m.b 0 rfl)
      go_wp2_with fail
      clear l0 c00 f00 c01 f01 c02 f02 c03 f03 c04 f04 c05 f05
      have C27 := Lib.hid (C15.out.mm (C15.out.m.set 0 rfl (set6_gr _ _ _ _ _ _ _ _ ) (set6_blk (.int .i64 4) (.int .i64 0) (.int .i64 0) (.string s1) (.bool false) (.slice (some ⟨w15.heap.size, 0, none⟩) 1 1) (C15.out.m.b 0 rfl))))
      have D27 := Lib.hid ((C27.out.mm (C27.out.m.box (X := w15.heap.size) (by simp [set6]) #[.int .i64 x.kind, .int .i64 x.op, .int .i64 x.int, .string x.name, .bool x.at_, .slice p N c] 33)))
      have E27 := Lib.hid (D27.out.mm (D27.out.m.fold (rd := fun U => ReadET U (Pa.fld s1 x, .slice (some ⟨w15.heap.size, 0, none⟩) 1 1)) (mn_E _) (fun U b o => ⟨bd_fld hsz1 x, slE_blk1 b (o 0 rfl).1 (o 0 rfl).2⟩)))
      have G27 := Lib.hid (E27.out.evs (G' := fun f ts => Pa.sendQ f (Pa.fld s1 x) ts) (fun x hx => send_more HI14.out hx))
      clear C15 C27 D27 E27
      go_roundg (n - (k' + 1 + 1))
      case measure => omega
      case rel => exact ⟨k' + 1 + 1, rfl, by omega, by omega, Pa.fld s1 x, _, _, _, _, G27⟩
    ·go_wp2_with fail
     exact ⟨rfl, HB.out.pq⟩
   ·go_wp2_with fail
    exact ⟨rfl, HB.out.pq⟩
 ·go_wp2_with fail
  exact ⟨rfl, HB.out.pq⟩
end Go.Proofs.YtdckddkalgnlpaaGreatDoor
