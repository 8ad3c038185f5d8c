/-
  Several texts in one: PbCmp, PbList, PrList.
-/
import Derived.Test.YtdckddkalgnlpaaGreatDoorA17
import Derived.Test.YtdckddkalgnlpaaGreatDoorA19
import Derived.Test.YtdckddkalgnlpaaGreatDoorA18
namespace Go.Proofs.YtdckddkalgnlpaaGreatDoor
open Go.RowKit Go.Maps Pw
set_option maxRecDepth 100000 in
set_option maxHeartbeats 8000000 in
theorem compare_of {L : List Lex.Tok} {n tbk tc P m : Nat} (hL : Pa.TkL L n) (hS : EC L n tbk tc P 178 4 m) : EC L n tbk tc P 158 3 m := by
 intro k w hp hk
 have hb1 := below_box w (.cells #[.int .i64 0, .int .i64 0, .int .i64 0, .string ⟨#[]⟩, .bool false, .slice none 0 0] 33)
 have hR := new_at (w := w) (o := .cells #[.int .i64 0, .int .i64 0, .int .i64 0, .string ⟨#[]⟩, .bool false, .slice none 0 0] 33) rfl
 obtain ⟨w1, hw1⟩ : ∃ q, q = w.alloc (.cells #[.int .i64 0, .int .i64 0, .int .i64 0, .string ⟨#[]⟩, .bool false, .slice none 0 0] 33) := ⟨_, rfl⟩
 rw [← hw1] at hb1 hR
 have HW1 := Lib.hid hw1
 have HR := Lib.hid hR
 have HB1 := Lib.hid hb1
 have HP1 := Lib.hid (hp.below hb1)
 have hplt := hp.plt
 have htlt := hp.lt
 have HL := Lib.hid hL
 have hsz1 : w1.heap.size = w.heap.size + 1 := by rw [hw1]; simp
 clear hb1 hR hw1 hp hL
 go_enter Tryz.func158, Tryz.ntmps158
 go_upto_region 1 with fail
 rw [← HW1.out]
 have K := Lib.hid (hS k w1 HP1.out hk)
 go_wp2_with fail
 refine K.out.mono ?_
 rintro e' w2 ⟨hg_, ⟨e, v, k2, hev, rfl, ⟨a, rfl, hbd, hsl⟩, hlt, hp2⟩ | ⟨k2, t, hev_, rfl, hle_, hkn_, ht_⟩⟩
 ·obtain ⟨pa, ca, rfl, _⟩ := hsl.form
  obtain ⟨AN, hAN⟩ : ∃ q, e.args.length = q := ⟨_, rfl⟩
  rw [hAN] at hsl ⊢
  obtain ⟨X, hX⟩ : ∃ q, q = w2.heap.size := ⟨_, rfl⟩
  have hxb := new_at (w := w2) (o := (.cells #[.int .i64 e.kind, .int .i64 e.op, .int .i64 e.int, .string e.name, .bool e.at_, .slice pa AN ca] 33)) rfl
  have hb3 := below_box w2 (.cells #[.int .i64 e.kind, .int .i64 e.op, .int .i64 e.int, .string e.name, .bool e.at_, .slice pa AN ca] 33)
  obtain ⟨w3, hw3⟩ : ∃ q, q = w2.alloc (.cells #[.int .i64 e.kind, .int .i64 e.op, .int .i64 e.int, .string e.name, .bool e.at_, .slice pa AN ca] 33) := ⟨_, rfl⟩
  rw [← hw3] at hxb hb3
  rw [← hX] at hxb
  have hb4 := below_box w3 (.cells #[.string ⟨#[61, 61]⟩, .string ⟨#[33, 61]⟩, .string ⟨#[60]⟩, .string ⟨#[60, 61]⟩, .string ⟨#[62]⟩, .string ⟨#[62, 61]⟩] 9)
  have hG := new_at (w := w3) (o := .cells #[.string ⟨#[61, 61]⟩, .string ⟨#[33, 61]⟩, .string ⟨#[60]⟩, .string ⟨#[60, 61]⟩, .string ⟨#[62]⟩, .string ⟨#[62, 61]⟩] 9) rfl
  obtain ⟨w4, hw4⟩ : ∃ q, q = w3.alloc (.cells #[.string ⟨#[61, 61]⟩, .string ⟨#[33, 61]⟩, .string ⟨#[60]⟩, .string ⟨#[60, 61]⟩, .string ⟨#[62]⟩, .string ⟨#[62, 61]⟩] 9) := ⟨_, rfl⟩
  rw [← hw4] at hb4 hG
  have hz2 := hg_.size
  have hz3 : w3.heap.size = X + 1 := by rw [hw3, hX]; simp
  have hz4 : w4.heap.size = X + 2 := by rw [hw4]; simp; omega
  rw [hz3] at hG
  have HW3 := Lib.hid hw3
  have HW4 := Lib.hid hw4
  have HXE := Lib.hid hX
  have HB24 := Lib.hid (below_next hb3 hb4)
  have HXB := Lib.hid (gr_at (gr_below hb4 none) hxb (fun h => by cases h))
  have HRB := Lib.hid (gr_at (gr_below (below_next hb3 hb4) none) (gr_at hg_ HR.out (by intro h; injection h; omega)) (fun h => by cases h))
  have HG4 := Lib.hid (gr_trans (gr_trans (gr_below HB1.out (some P)) hg_) (gr_below (below_next hb3 hb4) _))
  have HSL := Lib.hid (hsl.inc (up_step (l' := [w.heap.size, X]) (B' := w.heap.size) (gr_below (below_next hb3 hb4) none) (fun _ h => by cases h) (by intro k hk h; simp only [List.mem_cons, List.not_mem_nil, or_false] at h ⊢; omega)))
  have HP4 := Lib.hid (hp2.below (below_next hb3 hb4))
  have HEV := Lib.hid hev
  have HBD := Lib.hid hbd
  have KO := Lib.hid (operator_any HP4.out HL.out [5, 6, 7, 8, 9, 10] 6 (X + 1) rfl (by decide) (by decide) (fun j o hj => by match j, hj with | 0, hj => cases hj; exact cell_of_blkP hG (j := 0) rfl | 1, hj => cases hj; exact cell_of_blkP hG (j := 1) rfl | 2, hj => cases hj; exact cell_of_blkP hG (j := 2) rfl | 3, hj => cases hj; exact cell_of_blkP hG (j := 3) rfl | 4, hj => cases hj; exact cell_of_blkP hG (j := 4) rfl | 5, hj => cases hj; exact cell_of_blkP hG (j := 5) rfl | j + 6, hj => simp at hj))
  have hz2x : X = w2.heap.size := hX
  have hXR : w.heap.size < X := by omega
  clear hz2x hX hxb hb3 hb4 hG hw3 hw4 hsl hev hp2 hbd hAN hg_
  unfold exprV
  go_wp2_with fail
  rw [← HXE.out, ← HW3.out, ← HW4.out]
  clear HXE HW3 HW4
  refine KO.out.mono ?_
  rintro e' w5 (⟨o, hop, hom, rfl, hg5, hp5⟩ | ⟨hop, rfl, hb5⟩)
  ·have hxb := gr_at hg5 HXB.out (by intro h; injection h; omega)
   have hrb := gr_at hg5 HRB.out (by intro h; injection h; omega)
   have hsl := HSL.out.inc (up_step (l' := [w.heap.size, X]) (B' := w.heap.size) hg5 (by intro k hk; injection hk; simp; omega) (fun _ _ h => h))
   have hisl : k2 < n := by have := hp5.le; omega
   have HTL := Lib.hid (Pa.rest_tail HL.out hisl)
   have hop2 : Pa.opOf [5, 6, 7, 8, 9, 10] (Pa.rest L n k2) = some (o : Int) := hop
   have HOP := Lib.hid hop2
   have ho12 : o ≤ 12 := by simp at hom; omega
   have hgr5 := gr_trans HG4.out hg5
   have hz5 := hg5.size
   have HXB5 := Lib.hid hxb
   have HRB5 := Lib.hid hrb
   have HSL5 := Lib.hid hsl
   have HP5 := Lib.hid hp5
   have HGR5 := Lib.hid hgr5
   clear hxb hrb hsl hop hop2 hom hgr5 hg5 hp5 KO
   go_upto_region 4 with fail
   refine wp_region_held_drew (S := fun _ => True) (by kernel_rfl) trivial (fun _ => ?_)
   obtain ⟨w6, hw6⟩ : ∃ q, q = w5.drew := ⟨_, rfl⟩
   have HXB6 : Hid (w6.heap[X]? = some (.cells #[.int .i64 e.kind, .int .i64 e.op, .int .i64 e.int, .string e.name, .bool e.at_, .slice pa AN ca] 33 (0, 0))) := by rw [hw6]; exact HXB5
   have HRB6 : Hid (w6.heap[w.heap.size]? = some (.cells #[.int .i64 0, .int .i64 0, .int .i64 0, .string ⟨#[]⟩, .bool false, .slice none 0 0] 33 (0, 0))) := by rw [hw6]; exact HRB5
   have HSL6 : Hid (SlE (hide (upL w.heap.size [w.heap.size, X]) w6) (.slice pa AN ca) e.args) := by rw [hw6]; exact HSL5.out.inc (up_step (gr_drew (gr_refl w5 none)) (fun _ h => by cases h) (fun _ _ h => h))
   have HP6 : Hid (PS L n tbk tc P (k2 + 1) w6) := by rw [hw6]; exact HP5.out.keep (gr_drew (gr_refl w5 none)) (fun h => by cases h) (fun h => by cases h)
   have HG6 : Hid (w.grownBy w6 (some P)) := by rw [hw6]; exact gr_drew HGR5.out
   have hz6 : w5.heap.size = w6.heap.size := by rw [hw6]; rfl
   rw [← hw6]
   clear hw6 HXB5 HRB5 HSL5 HP5 HGR5 HRB HXB HSL HP4
   have KC := Lib.hid (hS (k2 + 1) w6 HP6.out (by omega))
   refine wpAnyH_take (i := 0) (oi := ⟨some 15, _, _, _, _, _⟩) (v := ?_) rfl (by kernel_rfl) (by kernel_rfl) (by kernel_rfl) (fun _ _ _ h => h) (Or.inl ⟨by rfl, ?_⟩) (by assumption) ?_
   rotate_left
   ·(intro w hSw; (try dsimp only at hSw); go_simp; (try with_reducible rfl))
   try simp only [Act.put, List.setIfInBounds_toArray, List.set_cons_zero, List.set_cons_succ]
   refine wpAnyH_take (i := 2) (oi := ⟨some 17, _, _, _, _, _⟩) (v := ?_) rfl (by kernel_rfl) (by kernel_rfl) (by kernel_rfl) (fun _ _ _ h => h) (Or.inl ⟨by rfl, ?_⟩) (by assumption) ?_
   rotate_left
   ·(intro w hSw; (try dsimp only at hSw); go_simp; (try with_reducible rfl))
   try simp only [Act.put, List.setIfInBounds_toArray, List.set_cons_zero, List.set_cons_succ]
   refine wpAnyH_ready (rs := [1, 3]) (by kernel_rfl) (by simp) ?_
   refine AllReadyH.cons (o := ⟨some 16, _, _, _, _, _⟩) rfl (fun K hK => ?_) (AllReadyH.cons (o := ⟨some 18, _, _, _, _, _⟩) rfl (fun K hK => ?_) AllReadyH.nil)
   ·have c0 := cell_of_blkP HXB6.out (j := 0) (u := .int .i64 e.kind) rfl
    have c1 := cell_of_blkP HXB6.out (j := 1) (u := .int .i64 e.op) rfl
    have c2 := cell_of_blkP HXB6.out (j := 2) (u := .int .i64 e.int) rfl
    have c3 := cell_of_blkP HXB6.out (j := 3) (u := .string e.name) rfl
    have c4 := cell_of_blkP HXB6.out (j := 4) (u := .bool e.at_) rfl
    have c5 := cell_of_blkP HXB6.out (j := 5) (u := .slice pa AN ca) rfl
    go_simp
    refine hK.out _ _ trivial (fun _ => ?_)
    clear hK K
    try simp only [Act.put, List.setIfInBounds_toArray, List.set_cons_zero, List.set_cons_succ]
    clear c0 c1 c2 c3 c4 c5
    refine wpAnyH_ready (rs := [3]) (by kernel_rfl) (by simp) ?_
    refine AllReadyH.cons (o := ⟨some 18, _, _, _, _, _⟩) rfl (fun K hK => ?_) AllReadyH.nil
    go_simp
    refine KC.out.mono ?_
    rintro e' w7 ⟨hg7, ⟨e2, v2, k7, hev7, rfl, ⟨a2, rfl, hbd7, hsl7⟩, hlt2, hp7⟩ | ⟨k7, t, hev7, rfl, hle7, hkn7, ht7⟩⟩
    ·obtain ⟨pb, cb, rfl, _⟩ := hsl7.form
     obtain ⟨BN, hBN⟩ : ∃ q, e2.args.length = q := ⟨_, rfl⟩
     rw [hBN] at hsl7 ⊢
     have HEV7 := Lib.hid hev7
     have HG7 := Lib.hid hg7
     have HSL7 := Lib.hid hsl7
     have HP7 := Lib.hid hp7
     have HBD7 := Lib.hid hbd7
     have HXB7 := Lib.hid (gr_at hg7 HXB6.out (by intro h; injection h; omega))
     have hz7 := hg7.size
     have hlt7 := hlt2
     clear hev7 hg7 hsl7 hp7 hbd7 hBN hlt2
     unfold exprV
     go_wp2_with fail
     refine hK.out _ _ trivial (fun _ => ?_)
     clear hK K
     try simp only [Act.put, List.setIfInBounds_toArray, List.set_cons_zero, List.set_cons_succ]
     refine wpAnyH_ready (rs := [4]) (by kernel_rfl) (by simp) ?_
     refine AllReadyH.cons (o := ⟨some 19, _, _, _, _, _⟩) rfl (fun K hK => ?_) AllReadyH.nil
     have kb := binaryP_any o e e2 (.slice pa AN ca) (.slice pb BN cb) w7
     unfold exprV at kb
     have KB := Lib.hid kb
     clear kb
     go_simp
     refine KB.out.mono ?_
     rintro e' w8 ⟨g2, rfl, hgg, hblk8, hb8⟩
     have HB8 := Lib.hid hb8
     have HBLK8 := Lib.hid hblk8
     have hrb8 := gr_at (gr_below hb8 none) (gr_at HG7.out HRB6.out (by intro h; injection h; omega)) (fun h => by cases h)
     have HRB8 := Lib.hid hrb8
     clear hblk8 hb8
     go_wp2_with fail
     refine hK.out _ _ trivial (fun _ => ?_)
     clear hK K
     try simp only [Act.put, List.setIfInBounds_toArray, List.set_cons_zero, List.set_cons_succ]
     refine wpAnyH_ready (rs := [5]) (by kernel_rfl) (by simp) ?_
     refine AllReadyH.cons (o := ⟨none, _, _, _, _, _⟩) rfl (fun K hK => ?_) AllReadyH.nil
     have r0 := cell_of_blkP hrb8 (j := 0) (u := .int .i64 0) rfl
     have f0 := blk_free hrb8 0
     have r1 := cell_of_blkP hrb8 (j := 1) (u := .int .i64 0) rfl
     have f1 := blk_free hrb8 1
     have r2 := cell_of_blkP hrb8 (j := 2) (u := .int .i64 0) rfl
     have f2 := blk_free hrb8 2
     have r3 := cell_of_blkP hrb8 (j := 3) (u := .string ⟨#[]⟩) rfl
     have f3 := blk_free hrb8 3
     have r4 := cell_of_blkP hrb8 (j := 4) (u := .bool false) rfl
     have f4 := blk_free hrb8 4
     have r5 := cell_of_blkP hrb8 (j := 5) (u := .slice none 0 0) rfl
     have f5 := blk_free hrb8 5
     clear hrb8
     go_simp
     refine hK.out _ _ trivial (fun _ => ?_)
     clear hK K
     try simp only [Act.put, List.setIfInBounds_toArray, List.set_cons_zero, List.set_cons_succ]
     refine wpAnyH_done (by kernel_rfl) ?_ _
     clear r0 r1 r2 r3 r4 r5 f0 f1 f2 f3 f4 f5
     go_wp2_with fail
     have h87 := gr_below HB8.out (some P)
     have hz8 := HB8.out.size
     have hsa := (HSL6.out.inc (up_step (l' := [w.heap.size, X]) (B' := w.heap.size) HG7.out (by intro k hk; injection hk; simp; omega) (fun _ _ h => h))).inc (up_step (l' := [w.heap.size, X]) (B' := w.heap.size) (gr_below HB8.out none) (fun _ h => by cases h) (fun _ _ h => h))
     have hsb := HSL7.out.inc (up_step (l' := [w.heap.size, X]) (B' := w.heap.size) (gr_below HB8.out none) (fun _ h => by cases h) (by intro k hk h; simp only [List.mem_cons, List.not_mem_nil, or_false] at h ⊢; omega))
     have htw := rd_two HBLK8.out rfl (B := w.heap.size) (l := [w.heap.size, X]) (by omega) (by simp only [List.mem_cons, List.not_mem_nil, or_false]; omega) HBD.out HBD7.out hsa hsb
     have HRB := HRB8
     have hS := set6_blk (.int .i64 10) (.int .i64 o) (.int .i64 0) (.string ⟨#[]⟩) (.bool false) (.slice (some ⟨g2, 0, none⟩) 2 2) HRB.out
     have hgs := set6_gr w8 w.heap.size (.int .i64 10) (.int .i64 o) (.int .i64 0) (.string ⟨#[]⟩) (.bool false) (.slice (some ⟨g2, 0, none⟩) 2 2)
     refine bodyPost_ret (v := exprV (Pa.bin o e e2) (.slice (some ⟨g2, 0, none⟩) 2 2)) (results_cell_row Tryz.results158 _ _ w.heap.size _ _ _ _ rfl hS Tryz.underlying33 rfl (by kernel_rfl)) rfl ?_
     exact ⟨gr_new (gr_trans (gr_trans HG6.out HG7.out) h87) hgs (Nat.le_refl _), .inl ⟨(Pa.bin o e e2), _, k7, .step (fun f => Pa.pE_3 f _) (.ok HEV.out (.cong (q := fun f => (Pa.pE f 4 (Pa.rest L n (k2 + 1))).bind fun b r => .ok (Pa.bin o e b) r) (fun f => by rw [HOP.out]; show (Pa.pE f 4 (Pa.rest L n k2).tail).bind _ = _; rw [HTL.out]) (.ok HEV7.out (.const _)))), rfl, ⟨_, rfl, bd_bin ho12 _ _, (htw).inc (up_step hgs (by intro k hk; injection hk; simp; omega) (by intro k hk h; simp only [List.not_mem_nil, or_false] at h ⊢; omega))⟩, by omega, (HP7.out.below HB8.out).keep hgs (by intro h; injection h; omega) (by intro h; injection h; omega)⟩⟩
    ·have H2 := Lib.hid (show PQ L n tbk tc P k (fun f ts => Pa.pE f 3 ts) rdE w (.panicked (failV t.pos)) w7 from ⟨gr_trans HG6.out hg7, .inr ⟨k7, t, .step (fun f => Pa.pE_3 f _) (.ok HEV.out (.cong (q := fun f => (Pa.pE f 4 (Pa.rest L n (k2 + 1))).bind fun b r => .ok (Pa.bin o e b) r) (fun f => by rw [HOP.out]; show (Pa.pE f 4 (Pa.rest L n k2).tail).bind _ = _; rw [HTL.out]) (.bad hev7))), rfl, by omega, hkn7, ht7⟩⟩)
     clear hev7 hg7 hle7 hkn7 ht7
     go_wp2_with fail
     exact ⟨rfl, H2.out⟩
   ·go_simp
    refine KC.out.mono ?_
    rintro e' w7 ⟨hg7, ⟨e2, v2, k7, hev7, rfl, ⟨a2, rfl, hbd7, hsl7⟩, hlt2, hp7⟩ | ⟨k7, t, hev7, rfl, hle7, hkn7, ht7⟩⟩
    ·obtain ⟨pb, cb, rfl, _⟩ := hsl7.form
     obtain ⟨BN, hBN⟩ : ∃ q, e2.args.length = q := ⟨_, rfl⟩
     rw [hBN] at hsl7 ⊢
     have HEV7 := Lib.hid hev7
     have HG7 := Lib.hid hg7
     have HSL7 := Lib.hid hsl7
     have HP7 := Lib.hid hp7
     have HBD7 := Lib.hid hbd7
     have HXB7 := Lib.hid (gr_at hg7 HXB6.out (by intro h; injection h; omega))
     have hz7 := hg7.size
     have hlt7 := hlt2
     clear hev7 hg7 hsl7 hp7 hbd7 hBN hlt2
     unfold exprV
     go_wp2_with fail
     refine hK.out _ _ trivial (fun _ => ?_)
     clear hK K
     try simp only [Act.put, List.setIfInBounds_toArray, List.set_cons_zero, List.set_cons_succ]
     refine wpAnyH_ready (rs := [1]) (by kernel_rfl) (by simp) ?_
     refine AllReadyH.cons (o := ⟨some 16, _, _, _, _, _⟩) rfl (fun K hK => ?_) AllReadyH.nil
     have c0 := cell_of_blkP HXB7.out (j := 0) (u := .int .i64 e.kind) rfl
     have c1 := cell_of_blkP HXB7.out (j := 1) (u := .int .i64 e.op) rfl
     have c2 := cell_of_blkP HXB7.out (j := 2) (u := .int .i64 e.int) rfl
     have c3 := cell_of_blkP HXB7.out (j := 3) (u := .string e.name) rfl
     have c4 := cell_of_blkP HXB7.out (j := 4) (u := .bool e.at_) rfl
     have c5 := cell_of_blkP HXB7.out (j := 5) (u := .slice pa AN ca) rfl
     go_simp
     refine hK.out _ _ trivial (fun _ => ?_)
     clear hK K
     try simp only [Act.put, List.setIfInBounds_toArray, List.set_cons_zero, List.set_cons_succ]
     clear c0 c1 c2 c3 c4 c5
     refine wpAnyH_ready (rs := [4]) (by kernel_rfl) (by simp) ?_
     refine AllReadyH.cons (o := ⟨some 19, _, _, _, _, _⟩) rfl (fun K hK => ?_) AllReadyH.nil
     have kb := binaryP_any o e e2 (.slice pa AN ca) (.slice pb BN cb) w7
     unfold exprV at kb
     have KB := Lib.hid kb
     clear kb
     go_simp
     refine KB.out.mono ?_
     rintro e' w8 ⟨g2, rfl, hgg, hblk8, hb8⟩
     have HB8 := Lib.hid hb8
     have HBLK8 := Lib.hid hblk8
     have hrb8 := gr_at (gr_below hb8 none) (gr_at HG7.out HRB6.out (by intro h; injection h; omega)) (fun h => by cases h)
     have HRB8 := Lib.hid hrb8
     clear hblk8 hb8
     go_wp2_with fail
     refine hK.out _ _ trivial (fun _ => ?_)
     clear hK K
     try simp only [Act.put, List.setIfInBounds_toArray, List.set_cons_zero, List.set_cons_succ]
     refine wpAnyH_ready (rs := [5]) (by kernel_rfl) (by simp) ?_
     refine AllReadyH.cons (o := ⟨none, _, _, _, _, _⟩) rfl (fun K hK => ?_) AllReadyH.nil
     have r0 := cell_of_blkP hrb8 (j := 0) (u := .int .i64 0) rfl
     have f0 := blk_free hrb8 0
     have r1 := cell_of_blkP hrb8 (j := 1) (u := .int .i64 0) rfl
     have f1 := blk_free hrb8 1
     have r2 := cell_of_blkP hrb8 (j := 2) (u := .int .i64 0) rfl
     have f2 := blk_free hrb8 2
     have r3 := cell_of_blkP hrb8 (j := 3) (u := .string ⟨#[]⟩) rfl
     have f3 := blk_free hrb8 3
     have r4 := cell_of_blkP hrb8 (j := 4) (u := .bool false) rfl
     have f4 := blk_free hrb8 4
     have r5 := cell_of_blkP hrb8 (j := 5) (u := .slice none 0 0) rfl
     have f5 := blk_free hrb8 5
     clear hrb8
     go_simp
     refine hK.out _ _ trivial (fun _ => ?_)
     clear hK K
     try simp only [Act.put, List.setIfInBounds_toArray, List.set_cons_zero, List.set_cons_succ]
     refine wpAnyH_done (by kernel_rfl) ?_ _
     clear r0 r1 r2 r3 r4 r5 f0 f1 f2 f3 f4 f5
     go_wp2_with fail
     have h87 := gr_below HB8.out (some P)
     have hz8 := HB8.out.size
     have hsa := (HSL6.out.inc (up_step (l' := [w.heap.size, X]) (B' := w.heap.size) HG7.out (by intro k hk; injection hk; simp; omega) (fun _ _ h => h))).inc (up_step (l' := [w.heap.size, X]) (B' := w.heap.size) (gr_below HB8.out none) (fun _ h => by cases h) (fun _ _ h => h))
     have hsb := HSL7.out.inc (up_step (l' := [w.heap.size, X]) (B' := w.heap.size) (gr_below HB8.out none) (fun _ h => by cases h) (by intro k hk h; simp only [List.mem_cons, List.not_mem_nil, or_false] at h ⊢; omega))
     have htw := rd_two HBLK8.out rfl (B := w.heap.size) (l := [w.heap.size, X]) (by omega) (by simp only [List.mem_cons, List.not_mem_nil, or_false]; omega) HBD.out HBD7.out hsa hsb
     have HRB := HRB8
     have hS := set6_blk (.int .i64 10) (.int .i64 o) (.int .i64 0) (.string ⟨#[]⟩) (.bool false) (.slice (some ⟨g2, 0, none⟩) 2 2) HRB.out
     have hgs := set6_gr w8 w.heap.size (.int .i64 10) (.int .i64 o) (.int .i64 0) (.string ⟨#[]⟩) (.bool false) (.slice (some ⟨g2, 0, none⟩) 2 2)
     refine bodyPost_ret (v := exprV (Pa.bin o e e2) (.slice (some ⟨g2, 0, none⟩) 2 2)) (results_cell_row Tryz.results158 _ _ w.heap.size _ _ _ _ rfl hS Tryz.underlying33 rfl (by kernel_rfl)) rfl ?_
     exact ⟨gr_new (gr_trans (gr_trans HG6.out HG7.out) h87) hgs (Nat.le_refl _), .inl ⟨(Pa.bin o e e2), _, k7, .step (fun f => Pa.pE_3 f _) (.ok HEV.out (.cong (q := fun f => (Pa.pE f 4 (Pa.rest L n (k2 + 1))).bind fun b r => .ok (Pa.bin o e b) r) (fun f => by rw [HOP.out]; show (Pa.pE f 4 (Pa.rest L n k2).tail).bind _ = _; rw [HTL.out]) (.ok HEV7.out (.const _)))), rfl, ⟨_, rfl, bd_bin ho12 _ _, (htw).inc (up_step hgs (by intro k hk; injection hk; simp; omega) (by intro k hk h; simp only [List.not_mem_nil, or_false] at h ⊢; omega))⟩, by omega, (HP7.out.below HB8.out).keep hgs (by intro h; injection h; omega) (by intro h; injection h; omega)⟩⟩
    ·have H2 := Lib.hid (show PQ L n tbk tc P k (fun f ts => Pa.pE f 3 ts) rdE w (.panicked (failV t.pos)) w7 from ⟨gr_trans HG6.out hg7, .inr ⟨k7, t, .step (fun f => Pa.pE_3 f _) (.ok HEV.out (.cong (q := fun f => (Pa.pE f 4 (Pa.rest L n (k2 + 1))).bind fun b r => .ok (Pa.bin o e b) r) (fun f => by rw [HOP.out]; show (Pa.pE f 4 (Pa.rest L n k2).tail).bind _ = _; rw [HTL.out]) (.bad hev7))), rfl, by omega, hkn7, ht7⟩⟩)
     clear hev7 hg7 hle7 hkn7 ht7
     go_wp2_with fail
     exact ⟨rfl, H2.out⟩
  ·have hxb := gr_at (gr_below hb5 none) HXB.out (fun h => by cases h)
   have hrb := gr_at (gr_below hb5 none) HRB.out (fun h => by cases h)
   have HB5 := Lib.hid hb5
   have hop2 : Pa.opOf [5, 6, 7, 8, 9, 10] (Pa.rest L n k2) = none := hop
   have HOP := Lib.hid hop2
   have HRB5 := Lib.hid hrb
   have c0 := cell_of_blkP hxb (j := 0) (u := .int .i64 e.kind) rfl
   have c1 := cell_of_blkP hxb (j := 1) (u := .int .i64 e.op) rfl
   have c2 := cell_of_blkP hxb (j := 2) (u := .int .i64 e.int) rfl
   have c3 := cell_of_blkP hxb (j := 3) (u := .string e.name) rfl
   have c4 := cell_of_blkP hxb (j := 4) (u := .bool e.at_) rfl
   have c5 := cell_of_blkP hxb (j := 5) (u := .slice pa AN ca) rfl
   have r0 := cell_of_blkP hrb (j := 0) (u := .int .i64 0) rfl
   have f0 := blk_free hrb 0
   have r1 := cell_of_blkP hrb (j := 1) (u := .int .i64 0) rfl
   have f1 := blk_free hrb 1
   have r2 := cell_of_blkP hrb (j := 2) (u := .int .i64 0) rfl
   have f2 := blk_free hrb 2
   have r3 := cell_of_blkP hrb (j := 3) (u := .string ⟨#[]⟩) rfl
   have f3 := blk_free hrb 3
   have r4 := cell_of_blkP hrb (j := 4) (u := .bool false) rfl
   have f4 := blk_free hrb 4
   have r5 := cell_of_blkP hrb (j := 5) (u := .slice none 0 0) rfl
   have f5 := blk_free hrb 5
   clear hxb hrb hb5 hop hop2
   go_wp2_with fail
   have HRB := HRB5
   have hS := set6_blk (.int .i64 e.kind) (.int .i64 e.op) (.int .i64 e.int) (.string e.name) (.bool e.at_) (.slice pa AN ca) HRB.out
   have hgs := set6_gr w5 w.heap.size (.int .i64 e.kind) (.int .i64 e.op) (.int .i64 e.int) (.string e.name) (.bool e.at_) (.slice pa AN ca)
   refine bodyPost_ret (v := exprV e (.slice pa AN ca)) (results_cell_row Tryz.results158 _ _ w.heap.size _ _ _ _ rfl hS Tryz.underlying33 rfl (by kernel_rfl)) rfl ?_
   exact ⟨gr_new (gr_trans HG4.out (gr_below HB5.out _)) hgs (Nat.le_refl _), .inl ⟨e, _, k2, .step (fun f => Pa.pE_3 f _) (.ok HEV.out (.cong (q := fun _ => .ok e (Pa.rest L n k2)) (fun f => by rw [HOP.out]) (.const _))), rfl, ⟨_, rfl, HBD.out, (HSL.out.inc (up_step (l' := [w.heap.size, X]) (B' := w.heap.size) (gr_below HB5.out none) (fun _ h => by cases h) (fun _ _ h => h))).inc (up_step hgs (by intro k hk; injection hk; simp; omega) (by intro k hk h; simp only [List.not_mem_nil, or_false] at h ⊢; omega))⟩, hlt, (HP4.out.below HB5.out).keep hgs (by intro h; injection h; omega) (by intro h; injection h; omega)⟩⟩
 ·have H2 := Lib.hid (show PQ L n tbk tc P k (fun f ts => Pa.pE f 3 ts) rdE w (.panicked (failV t.pos)) w2 from ⟨gr_trans (gr_below HB1.out (some P)) hg_, .inr ⟨k2, t, .step (fun f => Pa.pE_3 f _) (.bad hev_), rfl, hle_, hkn_, ht_⟩⟩)
  clear hev_ hle_ hkn_ ht_ hg_
  go_wp2_with fail
  exact ⟨rfl, H2.out⟩
end Go.Proofs.YtdckddkalgnlpaaGreatDoor
namespace Go.Proofs.YtdckddkalgnlpaaGreatDoor
open Go.RowKit Go.Maps Pw
theorem pAo (f : Nat) (ts : Pa.Toks) : Pa.pA (f + 1) ts = (Pa.expect [40] ts).bind fun _ r => Pa.opt [41] (fun r => .ok [] r) (fun r => (Pa.pE f 0 r).bind fun a r => Pa.pM f [a] r) r := Pa.pA_s f ts
theorem pMo (l : List Tr.E) (f : Nat) (ts : Pa.Toks) : Pa.pM (f + 1) l ts = Pa.opt [44] (fun r => (Pa.pE f 0 r).bind fun a r => Pa.pM f (l ++ [a]) r) (fun r => (Pa.expect [41] r).bind fun _ r => .ok l r) ts := Pa.pM_s f l ts
theorem pParamo (l : List ByteArray) (f : Nat) (ts : Pa.Toks) : Pa.pParam (f + 1) l ts = Pa.opt [44] (fun r => (Pa.word 2 r).bind fun a r => Pa.pParam f (l ++ [a]) r) (fun r => (Pa.expect [41] r).bind fun _ r => .ok l r) ts := by rw [Pa.pParam]; rfl
theorem map_snoc {α β : Type} (f : α → β) (l : List α) (x : α) : (l ++ [x]).map f = l.map f ++ [f x] := by rw [List.map_append]; rfl
set_option maxRecDepth 100000 in
set_option maxHeartbeats 8000000 in
theorem list_of {L : List Lex.Tok} {n tbk tc P m : Nat} (hL : Pa.TkL L n) (hE : EL L n tbk tc P 33 0 m) : LC L n tbk tc P m := by
 intro k w hp hk
 have HE := Lib.hid hE
 clear hE
 have C1 := Lib.hid (((Cx.start hL hp (fun f ts => Pa.pA f ts)).spec pAo).nilR tkE)
 clear hL hp
 go_enter Tryz.func217, Tryz.ntmps217
 go_wp2_with fail
 refine (C1.out.exp ⟨#[40]⟩ (by decide)).mono ?_
 rintro e w3 (⟨rfl, hlt2, C3⟩ | ⟨t, rfl, HB⟩)
 ·clear C1
  go_wp2_with fail
  refine (C3.out.take ⟨#[41]⟩ (by decide)).mono ?_
  rintro e w4 (⟨rfl, hlt5, C4⟩ | ⟨rfl, C4⟩)
  ·clear C3
   go_wp2_with fail
   go_ret
   exact C4.out.fin (by omega) ⟨[], rfl, by simp, .nil⟩
  ·clear C3
   go_wp2_with fail
   refine (C4.out.callE (HE.out _ _ C4.out.ps (by omega))).mono ?_
   rintro e w6 (⟨x1, p1, N1, c1, k1, rfl, hlt1, hn1, C6⟩ | ⟨t, rfl, HB⟩)
   ·clear C4
    obtain ⟨X7, w7, HX, HW, hx7, C7⟩ := C6.out.boxE #[.int .i64 x1.kind, .int .i64 x1.op, .int .i64 x1.int, .string x1.name, .bool x1.at_, .slice p1 N1 c1] 33
    clear C6
    go_wp2_with (at_builtin; rw [← HX.out, ← HW.out]; refine C7.out.pushW tkE rfl (Nat.zero_le _) rfl _ _ rfl rfl rfl ?_; intro p9 N9 c9 w8 HN9 C8)
    clear HX HW C7 hx7
    have HL9 : Hid ((([] : List ET) ++ [((x1, .slice p1 N1 c1) : ET)]).length ≤ k1) := Lib.hid (by simp only [List.length_append, List.length_cons, List.length_nil]; omega)
    go_loopg [5] (n - k1) (fun gg s5 wr => ∃ (k' : Nat) (p : Option Addr) (N c : Nat) (tr : List ET), gg = n - k' ∧ s5 = .slice p N c ∧ k < k' ∧ k' ≤ n ∧ Hid (tr.length ≤ k') ∧ Hid (Cx L n tbk tc P k w (fun f => Pa.pA f (Pa.rest L n k)) k' [] [imR tkE w.heap.size (.slice p N c) tr] (fun f ts => Pa.pM f (tr.map Prod.fst) ts) wr))
    case atStart => exact ⟨k1, p9, N9, c9, _, rfl, rfl, by omega, by omega, HL9, C8⟩
    case round =>
     clear C8 HL9
     obtain ⟨k', p, N, c, tr, rfl, rfl, hltk, hnk, HLN, CR⟩ := hrel
     have C9 := Lib.hid (CR.out.spec (pMo _))
     clear CR
     go_wp2_with fail
     refine (C9.out.take ⟨#[44]⟩ (by decide)).mono ?_
     rintro e w10 (⟨rfl, hlt11, C10⟩ | ⟨rfl, C10⟩)
     ·clear C9
      go_wp2_with fail
      refine (C10.out.callE (HE.out _ _ C10.out.ps (by omega))).mono ?_
      rintro e w12 (⟨x2, p2, N2, c2, k2, rfl, hlt2, hn2, C12⟩ | ⟨t, rfl, HB⟩)
      ·clear C10
       obtain ⟨X13, w13, HX, HW, hx13, C13⟩ := C12.out.boxE #[.int .i64 x2.kind, .int .i64 x2.op, .int .i64 x2.int, .string x2.name, .bool x2.at_, .slice p2 N2 c2] 33
       clear C12
       go_wp2_with (at_builtin; rw [← HX.out, ← HW.out]; refine C13.out.pushW tkE rfl (by have h1 := HLN.out; have h2 := C13.out.hL.few; omega) rfl _ _ rfl rfl rfl ?_; intro p9 N9 c9 w14 HN9 C14)
       clear HX HW C13 hx13
       have C15 := Lib.hid (C14.out.spc (fun f ts => by rw [← map_snoc (Prod.fst : ET → Tr.E) tr ((x2, .slice p2 N2 c2) : ET)]))
       clear C14
       have HL9 : Hid ((tr ++ [((x2, .slice p2 N2 c2) : ET)]).length ≤ k2) := Lib.hid (by have h1 := HLN.out; simp only [List.length_append, List.length_cons, List.length_nil]; omega)
       go_roundg (n - k2)
       case measure => omega
       case rel => exact ⟨k2, p9, N9, c9, _, rfl, rfl, by omega, by omega, HL9, C15⟩
      ·go_wp2_with fail
       exact ⟨rfl, HB.out.pr⟩
     ·clear C9
      go_wp2_with fail
      refine (C10.out.exp ⟨#[41]⟩ (by decide)).mono ?_
      rintro e w17 (⟨rfl, hlt16, C17⟩ | ⟨t, rfl, HB⟩)
      ·clear C10
       go_wp2_with fail
       go_ret
       exact C17.out.fin (by omega) ⟨tr, rfl, by have h1 := HLN.out; have h2 := C17.out.hL.few; omega, C17.out.m.o 0 rfl⟩
      ·go_wp2_with fail
       exact ⟨rfl, HB.out.pr⟩
   ·go_wp2_with fail
    exact ⟨rfl, HB.out.pr⟩
 ·go_wp2_with fail
  exact ⟨rfl, HB.out.pr⟩
def LNC (L : List Lex.Tok) (n tbk tc P : Nat) : Prop := ∀ k w, PS L n tbk tc P k w → Calls Tryz.prog 110 #[.pointer (some ⟨P, 0, none⟩), .func (.func 109) #[.pointer (some ⟨P, 0, none⟩)] #[]] w (PR L n tbk tc P k (fun f ts => Pa.pParams f ts) (rdN w.heap.size) w)
set_option maxRecDepth 100000 in
set_option maxHeartbeats 8000000 in
theorem names_any {L : List Lex.Tok} {n tbk tc P : Nat} (hL : Pa.TkL L n) : LNC L n tbk tc P := by
 intro k w hp
 have C18 := Lib.hid (((Cx.start hL hp (fun f ts => Pa.pParams f ts)).spc (G' := fun f ts => (Pa.expect [40] ts).bind fun _ r => Pa.opt [41] (fun r => .ok [] r) (fun r => (Pa.word 2 r).bind fun n r => Pa.pParam f [n] r) r) (fun f ts => rfl)).nilR tkN)
 clear hL hp
 go_enter Tryz.func110, Tryz.ntmps110
 go_wp2_with fail
 refine (C18.out.exp ⟨#[40]⟩ (by decide)).mono ?_
 rintro e w20 (⟨rfl, hlt19, C20⟩ | ⟨t, rfl, HB⟩)
 ·clear C18
  go_wp2_with fail
  refine (C20.out.take ⟨#[41]⟩ (by decide)).mono ?_
  rintro e w21 (⟨rfl, hlt22, C21⟩ | ⟨rfl, C21⟩)
  ·clear C20
   go_wp2_with fail
   go_ret
   exact C21.out.fin (by omega) ⟨by simp, .nil⟩
  ·clear C20
   go_wp2_with fail
   refine (C21.out.name).mono ?_
   rintro e w23 (⟨s1, rfl, hlt1, hsz1, C23⟩ | ⟨t, rfl, HB⟩)
   ·clear C21
    have C24 := Lib.hid (C23.out.addN hsz1)
    clear C23
    obtain ⟨X25, w25, HX, HW, hx25, C25⟩ := C24.out.boxE #[.string s1] 9
    clear C24
    go_wp2_with (at_builtin; rw [← HX.out, ← HW.out]; refine C25.out.pushW tkN rfl (Nat.zero_le _) rfl _ _ rfl rfl rfl ?_; intro p9 N9 c9 w26 HN9 C26)
    clear HX HW C25 hx25
    have HL9 : Hid ((([] : List ByteArray) ++ [s1]).length ≤ (k + 1 + 1)) := Lib.hid (by simp only [List.length_append, List.length_cons, List.length_nil]; omega)
    go_loopg [5] (n - (k + 1 + 1)) (fun gg s5 wr => ∃ (k' : Nat) (p : Option Addr) (N c : Nat) (tr : List ByteArray), gg = n - k' ∧ s5 = .slice p N c ∧ k < k' ∧ k' ≤ n ∧ Hid (tr.length ≤ k') ∧ Hid (Cx L n tbk tc P k w (fun f => Pa.pParams f (Pa.rest L n k)) k' [] [imR tkN w.heap.size (.slice p N c) tr] (fun f ts => Pa.pParam f tr ts) wr))
    case atStart => exact ⟨(k + 1 + 1), p9, N9, c9, _, rfl, rfl, by omega, by omega, HL9, C26⟩
    case round =>
     clear C26 HL9
     obtain ⟨k', p, N, c, tr, rfl, rfl, hltk, hnk, HLN, CR⟩ := hrel
     have C27 := Lib.hid (CR.out.spec (pParamo _))
     clear CR
     go_wp2_with fail
     refine (C27.out.take ⟨#[44]⟩ (by decide)).mono ?_
     rintro e w28 (⟨rfl, hlt29, C28⟩ | ⟨rfl, C28⟩)
     ·clear C27
      go_wp2_with fail
      refine (C28.out.name).mono ?_
      rintro e w30 (⟨s2, rfl, hlt2, hsz2, C30⟩ | ⟨t, rfl, HB⟩)
      ·clear C28
       have C31 := Lib.hid (C30.out.addN hsz2)
       clear C30
       obtain ⟨X32, w32, HX, HW, hx32, C32⟩ := C31.out.boxE #[.string s2] 9
       clear C31
       go_wp2_with (at_builtin; rw [← HX.out, ← HW.out]; refine C32.out.pushW tkN rfl (by have h1 := HLN.out; have h2 := C32.out.hL.few; omega) rfl _ _ rfl rfl rfl ?_; intro p9 N9 c9 w33 HN9 C33)
       clear HX HW C32 hx32
       have HL9 : Hid ((tr ++ [s2]).length ≤ (k' + 1 + 1)) := Lib.hid (by have h1 := HLN.out; simp only [List.length_append, List.length_cons, List.length_nil]; omega)
       go_roundg (n - (k' + 1 + 1))
       case measure => omega
       case rel => exact ⟨(k' + 1 + 1), p9, N9, c9, _, rfl, rfl, by omega, by omega, HL9, C33⟩
      ·go_wp2_with fail
       exact ⟨rfl, HB.out.pr⟩
     ·clear C27
      go_wp2_with fail
      refine (C28.out.exp ⟨#[41]⟩ (by decide)).mono ?_
      rintro e w35 (⟨rfl, hlt34, C35⟩ | ⟨t, rfl, HB⟩)
      ·clear C28
       go_wp2_with fail
       go_ret
       exact C35.out.fin (by omega) ⟨by have h1 := HLN.out; have h2 := C35.out.hL.few; omega, C35.out.m.o 0 rfl⟩
      ·go_wp2_with fail
       exact ⟨rfl, HB.out.pr⟩
   ·go_wp2_with fail
    exact ⟨rfl, HB.out.pr⟩
 ·go_wp2_with fail
  exact ⟨rfl, HB.out.pr⟩
structure AllE (L : List Lex.Tok) (n tbk tc P m : Nat) : Prop where
 expr : EC L n tbk tc P 33 0 m
 not : EC L n tbk tc P 123 2 m
 unary : EC L n tbk tc P 218 6 m
 operand : OC L n tbk tc P m
theorem all_EC {L : List Lex.Tok} {n tbk tc P : Nat} (hL : Pa.TkL L n) (m : Nat) : AllE L n tbk tc P m := by
 induction m using Nat.strongRecOn with
 | _ m ih =>
   have e0 : ∀ m', m' ≤ m → EL L n tbk tc P 33 0 m' := fun m' hm k w hp hk => (ih (n - k) (by omega)).expr k w hp (Nat.le_refl _)
   have e2 : EL L n tbk tc P 123 2 m := fun k w hp hk => (ih (n - k) (by omega)).not k w hp (Nat.le_refl _)
   have e6 : EL L n tbk tc P 218 6 m := fun k w hp hk => (ih (n - k) (by omega)).unary k w hp (Nat.le_refl _)
   have ho := operand_of hL (e0 m (Nat.le_refl _)) (fun m' hm => list_of hL (e0 m' (by omega))) e6
   have h6 := unary_of hL (postfix_of hL ho) e6
   have h2 := not_of hL (compare_of hL (sum_of hL (product_of hL h6))) e2
   exact ⟨expr_of hL (and_of hL h2), h2, h6, ho⟩
theorem plist_any {L : List Lex.Tok} {n tbk tc P : Nat} (hL : Pa.TkL L n) (m : Nat) : LC L n tbk tc P m := list_of hL (fun k w hp _ => (all_EC hL (n - k)).expr k w hp (Nat.le_refl _))
theorem pexpr_any {L : List Lex.Tok} {n tbk tc P : Nat} (hL : Pa.TkL L n) (k : Nat) (w : World) (hp : PS L n tbk tc P k w) : Calls Tryz.prog 33 #[.pointer (some ⟨P, 0, none⟩)] w (PQ L n tbk tc P k (fun f ts => Pa.pE f 0 ts) rdE w) := (all_EC hL (n - k)).expr k w hp (Nat.le_refl _)
theorem poperand_any {L : List Lex.Tok} {n tbk tc P : Nat} (hL : Pa.TkL L n) (k : Nat) (w : World) (hp : PS L n tbk tc P k w) : Calls Tryz.prog 198 #[.pointer (some ⟨P, 0, none⟩)] w (PQ L n tbk tc P k (fun f ts => Pa.pO f ts) rdE w) := (all_EC hL (n - k)).operand k w hp (Nat.le_refl _)
end Go.Proofs.YtdckddkalgnlpaaGreatDoor
namespace Go.Proofs.YtdckddkalgnlpaaGreatDoor
open Go.RowKit Go.Maps Pw
def RLX (L : List Lex.Tok) (n tbk tc P m : Nat) : Prop := ∀ k b w, RS L n tbk tc P k b w → n - k ≤ m → Calls Tryz.prog 125 #[.pointer (some ⟨P, 0, none⟩)] w (RX L n tbk tc P k b (fun f ts => Pa.pA f ts) (rdL w.heap.size) (fun _ _ _ => True) w)
set_option maxRecDepth 100000 in
set_option maxHeartbeats 8000000 in
theorem exprsR_of {L : List Lex.Tok} {n tbk tc P m : Nat} (hL : Pa.TkL L n) (hE : RE L n tbk tc P 0 0 m) : RLX L n tbk tc P m := by
 intro k b w hp hk
 have HE := Lib.hid hE
 obtain ⟨w1, HW, C1⟩ := ((Cr.start hL hp (fun f ts => Pa.pA f ts)).spec pAo).boxR #[] 33
 have D1 := Lib.hid (C1.out.emp tkE)
 clear hL hp hE C1
 go_enter Tryz.func125, Tryz.ntmps125
 go_upto_region 2 with fail
 rw [← HW.out]
 clear HW
 go_wp2_with fail
 refine (D1.out.exp ⟨#[40]⟩ (by decide)).mono ?_
 rintro e w3 ⟨k2, b2, rfl, hle2, hn2, -, C3⟩
 clear D1
 go_wp2_with fail
 refine (C3.out.take ⟨#[41]⟩ (by decide)).mono ?_
 rintro e w4 (⟨rfl, hlt5, -, C4⟩ | ⟨rfl, C4⟩)
 ·clear C3
  go_wp2_with fail
  go_ret
  exact C4.out.fin trivial ⟨[], rfl, by simp, C4.out.m.o 0 rfl⟩
 ·clear C3
  go_wp2_with fail
  refine (C4.out.callE (HE.out _ _ _ C4.out.ps (by omega))).mono ?_
  rintro e w6 ⟨x1, p1, N1, c1, k1, b1, rfl, hlt1, hn1, -, C6⟩
  clear C4
  obtain ⟨X7, w7, HX, HW, hx7, C7⟩ := C6.out.boxE #[.int .i64 x1.kind, .int .i64 x1.op, .int .i64 x1.int, .string x1.name, .bool x1.at_, .slice p1 N1 c1] 33
  clear C6
  go_wp2_with (at_builtin; rw [← HX.out, ← HW.out]; refine C7.out.pushW tkE rfl (Nat.zero_le _) rfl _ _ rfl rfl rfl ?_; intro p9 N9 c9 w8 HN9 C8)
  clear HX HW C7 hx7
  have HL9 : Hid ((([] : List ET) ++ [((x1, .slice p1 N1 c1) : ET)]).length ≤ k1 + 1) := Lib.hid (by simp only [List.length_append, List.length_cons, List.length_nil]; omega)
  go_loopg [3] (n - k1) (fun gg s3 wr => ∃ (k' : Nat) (b' : Bool) (p : Option Addr) (N c : Nat) (tr : List ET), gg = n - k' ∧ s3 = .slice p N c ∧ k ≤ k' ∧ k' ≤ n ∧ Hid (tr.length ≤ k' + 1) ∧ Hid (Cr L n tbk tc P k w (fun f => Pa.mv b (fun f ts => Pa.pA f ts) (Pa.rest L n k) f) k' b' [] [imR tkE w.heap.size (.slice p N c) tr] (fun f ts => Pa.pM f (tr.map Prod.fst) ts) wr))
  case atStart => exact ⟨k1, b1, p9, N9, c9, _, rfl, rfl, by omega, by omega, HL9, C8⟩
  case round =>
   clear C8 HL9
   obtain ⟨k', b', p, N, c, tr, rfl, rfl, hltk, hnk, HLN, CR⟩ := hrel
   have C9 := Lib.hid (CR.out.spec (pMo _))
   clear CR
   go_wp2_with fail
   refine (C9.out.take ⟨#[44]⟩ (by decide)).mono ?_
   rintro e w10 (⟨rfl, hlt11, -, C10⟩ | ⟨rfl, C10⟩)
   ·clear C9
    go_wp2_with fail
    refine (C10.out.callE (HE.out _ _ _ C10.out.ps (by omega))).mono ?_
    rintro e w12 ⟨x2, p2, N2, c2, k2, b2, rfl, hlt2, hn2, -, C12⟩
    clear C10
    obtain ⟨X13, w13, HX, HW, hx13, C13⟩ := C12.out.boxE #[.int .i64 x2.kind, .int .i64 x2.op, .int .i64 x2.int, .string x2.name, .bool x2.at_, .slice p2 N2 c2] 33
    clear C12
    go_wp2_with (at_builtin; rw [← HX.out, ← HW.out]; refine C13.out.pushW tkE rfl (by have h1 := HLN.out; have h2 := C13.out.hL.few; omega) rfl _ _ rfl rfl rfl ?_; intro p9 N9 c9 w14 HN9 C14)
    clear HX HW C13 hx13
    have C15 := Lib.hid (C14.out.spc (fun f ts => by rw [← map_snoc (Prod.fst : ET → Tr.E) tr ((x2, .slice p2 N2 c2) : ET)]))
    clear C14
    have HL9 : Hid ((tr ++ [((x2, .slice p2 N2 c2) : ET)]).length ≤ k2 + 1) := Lib.hid (by have h1 := HLN.out; simp only [List.length_append, List.length_cons, List.length_nil]; omega)
    go_roundg (n - k2)
    case measure => omega
    case rel => exact ⟨k2, b2, p9, N9, c9, _, rfl, rfl, by omega, by omega, HL9, C15⟩
   ·clear C9
    go_wp2_with fail
    refine (C10.out.exp ⟨#[41]⟩ (by decide)).mono ?_
    rintro e w17 ⟨k16, b16, rfl, hle16, hn16, -, C17⟩
    clear C10
    go_wp2_with fail
    go_ret
    exact C17.out.fin trivial ⟨tr, rfl, by have h1 := HLN.out; have h2 := C17.out.ps.few; omega, C17.out.m.o 0 rfl⟩
end Go.Proofs.YtdckddkalgnlpaaGreatDoor
