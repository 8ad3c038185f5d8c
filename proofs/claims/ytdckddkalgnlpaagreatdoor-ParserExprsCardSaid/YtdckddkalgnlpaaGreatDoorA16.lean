/-
  Several texts in one: PaLeft, PaExprA.
-/
import Derived.Test.YtdckddkalgnlpaaGreatDoorA9
namespace Go.Proofs.YtdckddkalgnlpaaGreatDoor
open Go.RowKit Go.Maps Pw
structure LeftSt (L : List Lex.Tok) (n tbk tc P lv : Nat) (ops : List Int) (w : World) (whole : Pa.R Tr.E → Prop) (R X k' : Nat) (e : Tr.E) (a : Value) (W : World) : Prop where
 ps : PS L n tbk tc P k' W
 xb : W.heap[X]? = some (.cells #[.int .i64 e.kind, .int .i64 e.op, .int .i64 e.int, .string e.name, .bool e.at_, a] 33 (0, 0))
 rb : W.heap[R]? = some (.cells #[.int .i64 0, .int .i64 0, .int .i64 0, .string ⟨#[]⟩, .bool false, .slice none 0 0] 33 (0, 0))
 sl : SlE (hide (upL w.heap.size [R, X]) W) a e.args
 bd : BdE e
 gr : w.grownBy W (some P)
 ev : ∀ x, Pa.Ev (fun f => Pa.pL f lv ops e (Pa.rest L n k')) x → whole x
set_option maxRecDepth 100000 in
set_option maxHeartbeats 8000000 in
theorem left_of {L : List Lex.Tok} {n tbk tc P : Nat} (hL : Pa.TkL L n) {F lv m : Nat} (henter : ∀ (args : Array Value) (W : World), (callFunc F args).run Tryz.prog W = .ok (.enter F args) W) (hK : EC L n tbk tc P F lv m)
 (ops : List Nat) (N g : Nat) (hN : ops.length = N) (hN9 : N ≤ 100) (ho : ∀ o ∈ ops, o ≤ 12) (k : Nat) (w : World) (hp : PS L n tbk tc P k w) (hk : n - k ≤ m) (hg : ∀ (j o : Nat), ops[j]? = some o → w.cell? ⟨g, j, none⟩ = some (.string (symB o))) (hgP : g ≠ P) :
 Calls Tryz.prog 70 #[.pointer (some ⟨P, 0, none⟩), .func (.func F) #[.pointer (some ⟨P, 0, none⟩)] #[], .slice (some ⟨g, 0, none⟩) N N] w (PQ L n tbk tc P k (fun f ts => (Pa.pE f lv ts).bind fun a r => Pa.pL f lv (ops.map fun o : Nat => (o : Int)) a r) rdE w) := by
 have hb1 := below_box w (.cells #[.int .i64 0, .int .i64 0, .int .i64 0, .string ⟨#[]⟩, .bool false, .slice none 0 0] 33)
 have hR := new_at (w := w) (o := .cells #[.int .i64 0, .int .i64 0, .int .i64 0, .string ⟨#[]⟩, .bool false, .slice none 0 0] 33) rfl
 obtain ⟨w1, hw1⟩ : ∃ q, q = w.alloc (.cells #[.int .i64 0, .int .i64 0, .int .i64 0, .string ⟨#[]⟩, .bool false, .slice none 0 0] 33) := ⟨_, rfl⟩
 rw [← hw1] at hb1 hR
 have HW1 := Lib.hid hw1
 have HR := Lib.hid hR
 have HB1 := Lib.hid hb1
 have HP1 := Lib.hid (hp.below hb1)
 have hplt := hp.plt
 have htlt := hp.lt
 have HL := Lib.hid hL
 have HKK := Lib.hid hK
 have HG := Lib.hid hg
 have HO := Lib.hid ho
 have HN := Lib.hid hN
 have hsz1 : w1.heap.size = w.heap.size + 1 := by rw [hw1]; simp
 clear hb1 hR hw1 hp hL hK hg ho hN
 go_enter Tryz.func70, Tryz.ntmps70
 go_upto_region 1 with fail
 rw [← HW1.out]
 have K1 := Lib.hid (HKK.out k w1 HP1.out hk)
 go_wp2_with fail
 refine K1.out.mono ?_
 rintro e w2 ⟨hg2, hpost⟩
 have HG2 := Lib.hid hg2
 have HGW := Lib.hid (gr_trans (gr_below HB1.out (some P)) hg2)
 have hsz2 := hg2.size
 rcases hpost with ⟨e, v, k2, hev, rfl, ⟨a, rfl, hbd, hsl⟩, hlt, hp2⟩ | ⟨k2, t, hev, rfl, hle, hkn, ht⟩
 ·obtain ⟨pa, ca, rfl, _⟩ := hsl.form
  obtain ⟨AN, hAN⟩ : ∃ q, e.args.length = q := ⟨_, rfl⟩
  rw [hAN] at hsl ⊢
  obtain ⟨X, hX⟩ : ∃ q, q = w2.heap.size := ⟨_, rfl⟩
  have hxb := new_at (w := w2) (o := .cells #[.int .i64 e.kind, .int .i64 e.op, .int .i64 e.int, .string e.name, .bool e.at_, .slice pa AN ca] 33) rfl
  have hb3 := below_box w2 (.cells #[.int .i64 e.kind, .int .i64 e.op, .int .i64 e.int, .string e.name, .bool e.at_, .slice pa AN ca] 33)
  obtain ⟨w3, hw3⟩ : ∃ q, q = w2.alloc (.cells #[.int .i64 e.kind, .int .i64 e.op, .int .i64 e.int, .string e.name, .bool e.at_, .slice pa AN ca] 33) := ⟨_, rfl⟩
  rw [← hw3] at hxb hb3
  rw [← hX] at hxb
  have hst : LeftSt L n tbk tc P lv (ops.map fun o : Nat => (o : Int)) w (fun x => Pa.Ev (fun f => (Pa.pE f lv (Pa.rest L n k)).bind fun a r => Pa.pL f lv (ops.map fun o : Nat => (o : Int)) a r) x) w.heap.size X k2 e (.slice pa AN ca) w3 :=
   ⟨hp2.below hb3, hxb, gr_at (gr_trans hg2 (gr_below hb3 (some P))) HR.out (by intro h; injection h; omega), hsl.inc (up_step (gr_below hb3 none) (fun _ h => by cases h) (by intro k hk h; simp only [List.mem_cons, List.not_mem_nil, or_false] at h ⊢; omega)), hbd, gr_trans HGW.out (gr_below hb3 _), fun x h => .ok hev h⟩
  have HST := Lib.hid hst
  have HW3 := Lib.hid hw3
  have HXE := Lib.hid hX
  have hkn2 := hp2.le
  have hXR : w.heap.size < X := by omega
  clear hev hbd hsl hp2 hAN hxb hb3 hw3 hst hg2 hX
  unfold exprV
  go_wp2_with fail
  rw [← HW3.out, ← HXE.out]
  clear HXE HW3 K1 HG2 HGW HR HW1
  go_loopg [8, 9, 12] (n - k2) (fun gg s8 s9 s12 wr => ∃ (k' : Nat) (e : Tr.E) (pa : Option Addr) (AN ca : Nat), gg = n - k' ∧ k < k' ∧ k' ≤ n ∧ Hid (LeftSt L n tbk tc P lv (ops.map fun o : Nat => (o : Int)) w (fun x => Pa.Ev (fun f => (Pa.pE f lv (Pa.rest L n k)).bind fun a r => Pa.pL f lv (ops.map fun o : Nat => (o : Int)) a r) x) w.heap.size X k' e (.slice pa AN ca) wr))
  case atStart => exact ⟨k2, e, pa, AN, ca, rfl, hlt, hkn2, HST⟩
  case round =>
   clear HST hlt hkn2
   obtain ⟨k', e, pa, AN, ca, rfl, hlt, hkn, HST⟩ := hrel
   have KO := Lib.hid (operator_any HST.out.ps HL.out ops N g HN.out hN9 HO.out (fun j o hj => gr_cell HST.out.gr (HG.out j o hj) (fun h => hgP (by injection h))))
   go_wp2_with fail
   refine KO.out.mono ?_
   rintro e' w5 (⟨o, hop, hom, rfl, hg5, hp5⟩ | ⟨hop, rfl, hb5⟩)
   ·have hxb := gr_at hg5 HST.out.xb (by intro h; injection h; omega)
    have hrb := gr_at hg5 HST.out.rb (by intro h; injection h; omega)
    have hsl := HST.out.sl.inc (up_step (l' := [w.heap.size, X]) (B' := w.heap.size) hg5 (by intro k hk; injection hk; simp; omega) (fun _ _ h => h))
    have hisl : k' < n := by have := hp5.le; omega
    have HTL := Lib.hid (Pa.rest_tail HL.out hisl)
    have HOP := Lib.hid hop
    have ho12 := HO.out o hom
    have hgr5 := gr_trans HST.out.gr hg5
    have hz5 := hg5.size
    have hzr := HST.out.gr.size
    have hxr : X < wr.heap.size := lt_of_block HST.out.xb
    have HXB := Lib.hid hxb
    have HRB := Lib.hid hrb
    have HSL := Lib.hid hsl
    have HP5 := Lib.hid hp5
    have HGR5 := Lib.hid hgr5
    clear hxb hrb hsl hop hom hgr5 hg5 hp5 KO
    go_upto_region 5 with fail
    refine wp_region_held_drew (S := fun _ => True) (by kernel_rfl) trivial (fun _ => ?_)
    obtain ⟨w6, hw6⟩ : ∃ q, q = w5.drew := ⟨_, rfl⟩
    have HXB6 : Hid (w6.heap[X]? = some (.cells #[.int .i64 e.kind, .int .i64 e.op, .int .i64 e.int, .string e.name, .bool e.at_, .slice pa AN ca] 33 (0, 0))) := by rw [hw6]; exact HXB
    have HRB6 : Hid (w6.heap[w.heap.size]? = some (.cells #[.int .i64 0, .int .i64 0, .int .i64 0, .string ⟨#[]⟩, .bool false, .slice none 0 0] 33 (0, 0))) := by rw [hw6]; exact HRB
    have HSL6 : Hid (SlE (hide (upL w.heap.size [w.heap.size, X]) w6) (.slice pa AN ca) e.args) := by rw [hw6]; exact HSL.out.inc (up_step (gr_drew (gr_refl w5 none)) (fun _ h => by cases h) (fun _ _ h => h))
    have HP6 : Hid (PS L n tbk tc P (k' + 1) w6) := by rw [hw6]; exact HP5.out.keep (gr_drew (gr_refl w5 none)) (fun h => by cases h) (fun h => by cases h)
    have HG6 : Hid (w.grownBy w6 (some P)) := by rw [hw6]; exact gr_drew HGR5.out
    have hz6 : w5.heap.size = w6.heap.size := by rw [hw6]; rfl
    rw [← hw6]
    clear hw6 HXB HRB HSL HP5 HGR5
    have KC := Lib.hid (HKK.out (k' + 1) w6 HP6.out (by omega))
    refine wpAnyH_take (i := 0) (oi := ⟨some 21, _, _, _, _, _⟩) (v := ?_) rfl (by kernel_rfl) (by kernel_rfl) (by kernel_rfl) (fun _ _ _ h => h) (Or.inl ⟨by rfl, ?_⟩) (by assumption) ?_
    rotate_left
    ·(intro w hSw; (try dsimp only at hSw); go_simp; (try with_reducible rfl))
    try simp only [Act.put, List.setIfInBounds_toArray, List.set_cons_zero, List.set_cons_succ]
    refine wpAnyH_take (i := 2) (oi := ⟨some 23, _, _, _, _, _⟩) (v := ?_) rfl (by kernel_rfl) (by kernel_rfl) (by kernel_rfl) (fun _ _ _ h => h) (Or.inl ⟨by rfl, ?_⟩) (by assumption) ?_
    rotate_left
    ·(intro w hSw; (try dsimp only at hSw); go_simp; (try with_reducible rfl))
    try simp only [Act.put, List.setIfInBounds_toArray, List.set_cons_zero, List.set_cons_succ]
    refine wpAnyH_ready (rs := [1, 3]) (by kernel_rfl) (by simp) ?_
    refine AllReadyH.cons (o := ⟨some 22, _, _, _, _, _⟩) rfl (fun K hK => ?_) (AllReadyH.cons (o := ⟨some 24, _, _, _, _, _⟩) rfl (fun K hK => ?_) AllReadyH.nil)
    ·have c0 := cell_of_blkP HXB6.out (j := 0) (u := .int .i64 e.kind) rfl
     have c1 := cell_of_blkP HXB6.out (j := 1) (u := .int .i64 e.op) rfl
     have c2 := cell_of_blkP HXB6.out (j := 2) (u := .int .i64 e.int) rfl
     have c3 := cell_of_blkP HXB6.out (j := 3) (u := .string e.name) rfl
     have c4 := cell_of_blkP HXB6.out (j := 4) (u := .bool e.at_) rfl
     have c5 := cell_of_blkP HXB6.out (j := 5) (u := .slice pa AN ca) rfl
     go_simp
     refine hK.out _ _ trivial (fun _ => ?_)
     clear hK K
     try simp only [Act.put, List.setIfInBounds_toArray, List.set_cons_zero, List.set_cons_succ]
     clear c0 c1 c2 c3 c4 c5
     refine wpAnyH_ready (rs := [3]) (by kernel_rfl) (by simp) ?_
     refine AllReadyH.cons (o := ⟨some 24, _, _, _, _, _⟩) rfl (fun K hK => ?_) AllReadyH.nil
     go_simp
     refine KC.out.mono ?_
     rintro e' w7 ⟨hg7, ⟨e2, v2, k7, hev7, rfl, ⟨a2, rfl, hbd7, hsl7⟩, hlt2, hp7⟩ | ⟨k7, t, hev7, rfl, hle7, hkn7, ht7⟩⟩
     ·obtain ⟨pb, cb, rfl, _⟩ := hsl7.form
      obtain ⟨BN, hBN⟩ : ∃ q, e2.args.length = q := ⟨_, rfl⟩
      rw [hBN] at hsl7 ⊢
      have HEV := Lib.hid hev7
      have HG7 := Lib.hid hg7
      have HSL7 := Lib.hid hsl7
      have HP7 := Lib.hid hp7
      have HBD7 := Lib.hid hbd7
      have HXB7 := Lib.hid (gr_at hg7 HXB6.out (by intro h; injection h; omega))
      have hz7 := hg7.size
      have hlt7 := hlt2
      clear hev7 hg7 hsl7 hp7 hbd7 hBN hlt2
      unfold exprV
      go_wp2_with fail
      refine hK.out _ _ trivial (fun _ => ?_)
      clear hK K
      try simp only [Act.put, List.setIfInBounds_toArray, List.set_cons_zero, List.set_cons_succ]
      refine wpAnyH_ready (rs := [4]) (by kernel_rfl) (by simp) ?_
      refine AllReadyH.cons (o := ⟨some 25, _, _, _, _, _⟩) rfl (fun K hK => ?_) AllReadyH.nil
      have kb := binaryP_any o e e2 (.slice pa AN ca) (.slice pb BN cb) w7
      unfold exprV at kb
      have KB := Lib.hid kb
      clear kb
      go_simp
      refine KB.out.mono ?_
      rintro e' w8 ⟨g2, rfl, hgg, hblk8, hb8⟩
      have HB8 := Lib.hid hb8
      have HBLK8 := Lib.hid hblk8
      have hxb8 := gr_at (gr_below hb8 none) HXB7.out (fun h => by cases h)
      have HXB8 := Lib.hid hxb8
      clear hblk8 hb8
      go_wp2_with fail
      refine hK.out _ _ trivial (fun _ => ?_)
      clear hK K
      try simp only [Act.put, List.setIfInBounds_toArray, List.set_cons_zero, List.set_cons_succ]
      refine wpAnyH_ready (rs := [5]) (by kernel_rfl) (by simp) ?_
      refine AllReadyH.cons (o := ⟨none, _, _, _, _, _⟩) rfl (fun K hK => ?_) AllReadyH.nil
      have c0 := cell_of_blkP hxb8 (j := 0) (u := .int .i64 e.kind) rfl
      have c1 := cell_of_blkP hxb8 (j := 1) (u := .int .i64 e.op) rfl
      have c2 := cell_of_blkP hxb8 (j := 2) (u := .int .i64 e.int) rfl
      have c3 := cell_of_blkP hxb8 (j := 3) (u := .string e.name) rfl
      have c4 := cell_of_blkP hxb8 (j := 4) (u := .bool e.at_) rfl
      have c5 := cell_of_blkP hxb8 (j := 5) (u := .slice pa AN ca) rfl
      have f0 := blk_free hxb8 0
      have f1 := blk_free hxb8 1
      have f2 := blk_free hxb8 2
      have f3 := blk_free hxb8 3
      have f4 := blk_free hxb8 4
      have f5 := blk_free hxb8 5
      clear hxb8
      go_simp
      refine hK.out _ _ trivial (fun _ => ?_)
      clear hK K
      try simp only [Act.put, List.setIfInBounds_toArray, List.set_cons_zero, List.set_cons_succ]
      refine wpAnyH_done (by kernel_rfl) ?_ _
      clear c0 c1 c2 c3 c4 c5 f0 f1 f2 f3 f4 f5
      go_wp2_with fail
      have hS := set6_blk (.int .i64 10) (.int .i64 o) (.int .i64 0) (.string ⟨#[]⟩) (.bool false) (.slice (some ⟨g2, 0, none⟩) 2 2) HXB8.out
      have hgs := set6_gr w8 X (.int .i64 10) (.int .i64 o) (.int .i64 0) (.string ⟨#[]⟩) (.bool false) (.slice (some ⟨g2, 0, none⟩) 2 2)
      have h87 := gr_below HB8.out (some P)
      have hz8 := HB8.out.size
      have hsa := (HSL6.out.inc (up_step (l' := [w.heap.size, X]) (B' := w.heap.size) HG7.out (by intro k hk; injection hk; simp; omega) (fun _ _ h => h))).inc (up_step (l' := [w.heap.size, X]) (B' := w.heap.size) (gr_below HB8.out none) (fun _ h => by cases h) (fun _ _ h => h))
      have hsb := HSL7.out.inc (up_step (l' := [w.heap.size, X]) (B' := w.heap.size) (gr_below HB8.out none) (fun _ h => by cases h) (by intro k hk h; simp only [List.mem_cons, List.not_mem_nil, or_false] at h ⊢; omega))
      have htw := rd_two HBLK8.out rfl (B := w.heap.size) (l := [w.heap.size, X]) (by omega) (by simp only [List.mem_cons, List.not_mem_nil, or_false]; omega) HST.out.bd HBD7.out hsa hsb
      have hst : LeftSt L n tbk tc P lv (ops.map fun o : Nat => (o : Int)) w (fun x => Pa.Ev (fun f => (Pa.pE f lv (Pa.rest L n k)).bind fun a r => Pa.pL f lv (ops.map fun o : Nat => (o : Int)) a r) x) w.heap.size X k7 (Pa.bin o e e2) (.slice (some ⟨g2, 0, none⟩) 2 2) (set6 w8 X (.int .i64 10) (.int .i64 o) (.int .i64 0) (.string ⟨#[]⟩) (.bool false) (.slice (some ⟨g2, 0, none⟩) 2 2)) :=
       ⟨(HP7.out.below HB8.out).keep hgs (by intro h; injection h; omega) (by intro h; injection h; omega), hS, gr_at hgs (gr_at (gr_trans HG7.out h87) HRB6.out (by intro h; injection h; omega)) (by intro h; injection h; omega), htw.inc (up_step (l' := [w.heap.size, X]) (B' := w.heap.size) hgs (by intro k hk; injection hk; simp; omega) (fun _ _ h => h)), bd_bin ho12 _ _, gr_new (gr_trans (gr_trans HG6.out HG7.out) h87) hgs (by omega), fun x h => HST.out.ev x (Pa.ev_pL_some HOP.out (by rw [HTL.out]; exact .ok HEV.out h))⟩
      have HST9 := Lib.hid hst
      have hkn7 := HP7.out.le
      clear hS hgs h87 hsa hsb htw hst
      go_roundg (n - k7)
      case measure => omega
      case rel => exact ⟨k7, _, _, _, _, rfl, by omega, hkn7, HST9⟩
     ·have H2 := Lib.hid (show PQ L n tbk tc P k (fun f ts => (Pa.pE f lv ts).bind fun a r => Pa.pL f lv (ops.map fun o : Nat => (o : Int)) a r) rdE w (.panicked (failV t.pos)) w7 from ⟨gr_trans HG6.out hg7, .inr ⟨k7, t, HST.out.ev _ (Pa.ev_pL_some HOP.out (by rw [HTL.out]; exact .bad hev7)), rfl, by omega, hkn7, ht7⟩⟩)
      clear hev7 hg7 hle7 hkn7 ht7
      go_wp2_with fail
      exact ⟨rfl, H2.out⟩
    ·go_simp
     refine KC.out.mono ?_
     rintro e' w7 ⟨hg7, ⟨e2, v2, k7, hev7, rfl, ⟨a2, rfl, hbd7, hsl7⟩, hlt2, hp7⟩ | ⟨k7, t, hev7, rfl, hle7, hkn7, ht7⟩⟩
     ·obtain ⟨pb, cb, rfl, _⟩ := hsl7.form
      obtain ⟨BN, hBN⟩ : ∃ q, e2.args.length = q := ⟨_, rfl⟩
      rw [hBN] at hsl7 ⊢
      have HEV := Lib.hid hev7
      have HG7 := Lib.hid hg7
      have HSL7 := Lib.hid hsl7
      have HP7 := Lib.hid hp7
      have HBD7 := Lib.hid hbd7
      have HXB7 := Lib.hid (gr_at hg7 HXB6.out (by intro h; injection h; omega))
      have hz7 := hg7.size
      have hlt7 := hlt2
      clear hev7 hg7 hsl7 hp7 hbd7 hBN hlt2
      unfold exprV
      go_wp2_with fail
      refine hK.out _ _ trivial (fun _ => ?_)
      clear hK K
      try simp only [Act.put, List.setIfInBounds_toArray, List.set_cons_zero, List.set_cons_succ]
      refine wpAnyH_ready (rs := [1]) (by kernel_rfl) (by simp) ?_
      refine AllReadyH.cons (o := ⟨some 22, _, _, _, _, _⟩) rfl (fun K hK => ?_) AllReadyH.nil
      have c0 := cell_of_blkP HXB7.out (j := 0) (u := .int .i64 e.kind) rfl
      have c1 := cell_of_blkP HXB7.out (j := 1) (u := .int .i64 e.op) rfl
      have c2 := cell_of_blkP HXB7.out (j := 2) (u := .int .i64 e.int) rfl
      have c3 := cell_of_blkP HXB7.out (j := 3) (u := .string e.name) rfl
      have c4 := cell_of_blkP HXB7.out (j := 4) (u := .bool e.at_) rfl
      have c5 := cell_of_blkP HXB7.out (j := 5) (u := .slice pa AN ca) rfl
      go_simp
      refine hK.out _ _ trivial (fun _ => ?_)
      clear hK K
      try simp only [Act.put, List.setIfInBounds_toArray, List.set_cons_zero, List.set_cons_succ]
      clear c0 c1 c2 c3 c4 c5
      refine wpAnyH_ready (rs := [4]) (by kernel_rfl) (by simp) ?_
      refine AllReadyH.cons (o := ⟨some 25, _, _, _, _, _⟩) rfl (fun K hK => ?_) AllReadyH.nil
      have kb := binaryP_any o e e2 (.slice pa AN ca) (.slice pb BN cb) w7
      unfold exprV at kb
      have KB := Lib.hid kb
      clear kb
      go_simp
      refine KB.out.mono ?_
      rintro e' w8 ⟨g2, rfl, hgg, hblk8, hb8⟩
      have HB8 := Lib.hid hb8
      have HBLK8 := Lib.hid hblk8
      have hxb8 := gr_at (gr_below hb8 none) HXB7.out (fun h => by cases h)
      have HXB8 := Lib.hid hxb8
      clear hblk8 hb8
      go_wp2_with fail
      refine hK.out _ _ trivial (fun _ => ?_)
      clear hK K
      try simp only [Act.put, List.setIfInBounds_toArray, List.set_cons_zero, List.set_cons_succ]
      refine wpAnyH_ready (rs := [5]) (by kernel_rfl) (by simp) ?_
      refine AllReadyH.cons (o := ⟨none, _, _, _, _, _⟩) rfl (fun K hK => ?_) AllReadyH.nil
      have c0 := cell_of_blkP hxb8 (j := 0) (u := .int .i64 e.kind) rfl
      have c1 := cell_of_blkP hxb8 (j := 1) (u := .int .i64 e.op) rfl
      have c2 := cell_of_blkP hxb8 (j := 2) (u := .int .i64 e.int) rfl
      have c3 := cell_of_blkP hxb8 (j := 3) (u := .string e.name) rfl
      have c4 := cell_of_blkP hxb8 (j := 4) (u := .bool e.at_) rfl
      have c5 := cell_of_blkP hxb8 (j := 5) (u := .slice pa AN ca) rfl
      have f0 := blk_free hxb8 0
      have f1 := blk_free hxb8 1
      have f2 := blk_free hxb8 2
      have f3 := blk_free hxb8 3
      have f4 := blk_free hxb8 4
      have f5 := blk_free hxb8 5
      clear hxb8
      go_simp
      refine hK.out _ _ trivial (fun _ => ?_)
      clear hK K
      try simp only [Act.put, List.setIfInBounds_toArray, List.set_cons_zero, List.set_cons_succ]
      refine wpAnyH_done (by kernel_rfl) ?_ _
      clear c0 c1 c2 c3 c4 c5 f0 f1 f2 f3 f4 f5
      go_wp2_with fail
      have hS := set6_blk (.int .i64 10) (.int .i64 o) (.int .i64 0) (.string ⟨#[]⟩) (.bool false) (.slice (some ⟨g2, 0, none⟩) 2 2) HXB8.out
      have hgs := set6_gr w8 X (.int .i64 10) (.int .i64 o) (.int .i64 0) (.string ⟨#[]⟩) (.bool false) (.slice (some ⟨g2, 0, none⟩) 2 2)
      have h87 := gr_below HB8.out (some P)
      have hz8 := HB8.out.size
      have hsa := (HSL6.out.inc (up_step (l' := [w.heap.size, X]) (B' := w.heap.size) HG7.out (by intro k hk; injection hk; simp; omega) (fun _ _ h => h))).inc (up_step (l' := [w.heap.size, X]) (B' := w.heap.size) (gr_below HB8.out none) (fun _ h => by cases h) (fun _ _ h => h))
      have hsb := HSL7.out.inc (up_step (l' := [w.heap.size, X]) (B' := w.heap.size) (gr_below HB8.out none) (fun _ h => by cases h) (by intro k hk h; simp only [List.mem_cons, List.not_mem_nil, or_false] at h ⊢; omega))
      have htw := rd_two HBLK8.out rfl (B := w.heap.size) (l := [w.heap.size, X]) (by omega) (by simp only [List.mem_cons, List.not_mem_nil, or_false]; omega) HST.out.bd HBD7.out hsa hsb
      have hst : LeftSt L n tbk tc P lv (ops.map fun o : Nat => (o : Int)) w (fun x => Pa.Ev (fun f => (Pa.pE f lv (Pa.rest L n k)).bind fun a r => Pa.pL f lv (ops.map fun o : Nat => (o : Int)) a r) x) w.heap.size X k7 (Pa.bin o e e2) (.slice (some ⟨g2, 0, none⟩) 2 2) (set6 w8 X (.int .i64 10) (.int .i64 o) (.int .i64 0) (.string ⟨#[]⟩) (.bool false) (.slice (some ⟨g2, 0, none⟩) 2 2)) :=
       ⟨(HP7.out.below HB8.out).keep hgs (by intro h; injection h; omega) (by intro h; injection h; omega), hS, gr_at hgs (gr_at (gr_trans HG7.out h87) HRB6.out (by intro h; injection h; omega)) (by intro h; injection h; omega), htw.inc (up_step (l' := [w.heap.size, X]) (B' := w.heap.size) hgs (by intro k hk; injection hk; simp; omega) (fun _ _ h => h)), bd_bin ho12 _ _, gr_new (gr_trans (gr_trans HG6.out HG7.out) h87) hgs (by omega), fun x h => HST.out.ev x (Pa.ev_pL_some HOP.out (by rw [HTL.out]; exact .ok HEV.out h))⟩
      have HST9 := Lib.hid hst
      have hkn7 := HP7.out.le
      clear hS hgs h87 hsa hsb htw hst
      go_roundg (n - k7)
      case measure => omega
      case rel => exact ⟨k7, _, _, _, _, rfl, by omega, hkn7, HST9⟩
     ·have H2 := Lib.hid (show PQ L n tbk tc P k (fun f ts => (Pa.pE f lv ts).bind fun a r => Pa.pL f lv (ops.map fun o : Nat => (o : Int)) a r) rdE w (.panicked (failV t.pos)) w7 from ⟨gr_trans HG6.out hg7, .inr ⟨k7, t, HST.out.ev _ (Pa.ev_pL_some HOP.out (by rw [HTL.out]; exact .bad hev7)), rfl, by omega, hkn7, ht7⟩⟩)
      clear hev7 hg7 hle7 hkn7 ht7
      go_wp2_with fail
      exact ⟨rfl, H2.out⟩
   ·have hxb := gr_at (gr_below hb5 none) HST.out.xb (fun h => by cases h)
    have hrb := gr_at (gr_below hb5 none) HST.out.rb (fun h => by cases h)
    have HRB := Lib.hid hrb
    have HB5 := Lib.hid hb5
    have HOP := Lib.hid hop
    have c0 := cell_of_blkP hxb (j := 0) (u := .int .i64 e.kind) rfl
    have c1 := cell_of_blkP hxb (j := 1) (u := .int .i64 e.op) rfl
    have c2 := cell_of_blkP hxb (j := 2) (u := .int .i64 e.int) rfl
    have c3 := cell_of_blkP hxb (j := 3) (u := .string e.name) rfl
    have c4 := cell_of_blkP hxb (j := 4) (u := .bool e.at_) rfl
    have c5 := cell_of_blkP hxb (j := 5) (u := .slice pa AN ca) rfl
    have r0 := cell_of_blkP hrb (j := 0) (u := .int .i64 0) rfl
    have f0 := blk_free hrb 0
    have r1 := cell_of_blkP hrb (j := 1) (u := .int .i64 0) rfl
    have f1 := blk_free hrb 1
    have r2 := cell_of_blkP hrb (j := 2) (u := .int .i64 0) rfl
    have f2 := blk_free hrb 2
    have r3 := cell_of_blkP hrb (j := 3) (u := .string ⟨#[]⟩) rfl
    have f3 := blk_free hrb 3
    have r4 := cell_of_blkP hrb (j := 4) (u := .bool false) rfl
    have f4 := blk_free hrb 4
    have r5 := cell_of_blkP hrb (j := 5) (u := .slice none 0 0) rfl
    have f5 := blk_free hrb 5
    clear hxb hrb hb5 hop
    go_wp2_with fail
    have hS := set6_blk (.int .i64 e.kind) (.int .i64 e.op) (.int .i64 e.int) (.string e.name) (.bool e.at_) (.slice pa AN ca) HRB.out
    refine bodyPost_ret (v := exprV e (.slice pa AN ca)) (results_cell_row Tryz.results70 _ _ w.heap.size _ _ _ _ rfl hS Tryz.underlying33 rfl (by kernel_rfl)) rfl ?_
    have hgs := set6_gr w5 w.heap.size (.int .i64 e.kind) (.int .i64 e.op) (.int .i64 e.int) (.string e.name) (.bool e.at_) (.slice pa AN ca)
    refine ⟨gr_new (gr_trans HST.out.gr (gr_below HB5.out _)) hgs (Nat.le_refl _), .inl ⟨e, _, k', HST.out.ev _ (Pa.ev_pL_none HOP.out), rfl, ⟨_, rfl, HST.out.bd, ?_⟩, hlt, (HST.out.ps.below HB5.out).keep hgs (by intro h; injection h; omega) (by intro h; injection h; omega)⟩⟩
    refine (HST.out.sl.inc (up_step (l' := [w.heap.size, X]) (B' := w.heap.size) (gr_below HB5.out none) (fun _ h => by cases h) (fun _ _ h => h))).inc (up_step hgs (by intro k hk; injection hk; simp; omega) (by intro k _ h; simp only [List.not_mem_nil, or_false] at h; exact .inl h))
 ·have H2 := Lib.hid (show PQ L n tbk tc P k (fun f ts => (Pa.pE f lv ts).bind fun a r => Pa.pL f lv (ops.map fun o : Nat => (o : Int)) a r) rdE w (.panicked (failV t.pos)) w2 from ⟨HGW.out, .inr ⟨k2, t, .bad hev, rfl, hle, hkn, ht⟩⟩)
  clear hev hle hkn ht hg2
  go_wp2_with fail
  exact ⟨rfl, H2.out⟩
end Go.Proofs.YtdckddkalgnlpaaGreatDoor
namespace Go.Proofs.YtdckddkalgnlpaaGreatDoor
open Go.RowKit Go.Maps Pw
theorem mkFunc (fn : Fn) (first cap : Array Value) (w : World) : (Instr.makeFunc fn first cap).run Tryz.prog w = .ok (.func fn first cap) w := rfl
set_option maxRecDepth 100000 in
set_option maxHeartbeats 8000000 in
theorem expr_of {L : List Lex.Tok} {n tbk tc P m : Nat} (hL : Pa.TkL L n) (hK : EC L n tbk tc P 71 1 m) : EC L n tbk tc P 33 0 m := by
 intro k w hp hk
 have hb1 := below_box w (.cells #[.int .i64 0, .int .i64 0, .int .i64 0, .string ⟨#[]⟩, .bool false, .slice none 0 0] 33)
 have hR := new_at (w := w) (o := .cells #[.int .i64 0, .int .i64 0, .int .i64 0, .string ⟨#[]⟩, .bool false, .slice none 0 0] 33) rfl
 obtain ⟨w1, hw1⟩ : ∃ q, q = w.alloc (.cells #[.int .i64 0, .int .i64 0, .int .i64 0, .string ⟨#[]⟩, .bool false, .slice none 0 0] 33) := ⟨_, rfl⟩
 rw [← hw1] at hb1 hR
 have HW1 := Lib.hid hw1
 have HR := Lib.hid hR
 have HB1 := Lib.hid hb1
 have HP1 := Lib.hid (hp.below hb1)
 have hplt := hp.plt
 have htlt := hp.lt
 have HL := Lib.hid hL
 have hsz1 : w1.heap.size = w.heap.size + 1 := by rw [hw1]; simp
 clear hb1 hR hw1 hp hL
 have hmf := mkFunc
 have hb2 := below_box w1 (.cells #[.string ⟨#[111, 114]⟩] 9)
 have hG := new_at (w := w1) (o := .cells #[.string ⟨#[111, 114]⟩] 9) rfl
 obtain ⟨w2, hw2⟩ : ∃ q, q = w1.alloc (.cells #[.string ⟨#[111, 114]⟩] 9) := ⟨_, rfl⟩
 rw [← hw2] at hb2 hG
 rw [hsz1] at hG
 have K := Lib.hid (left_of HL.out (F := 71) (lv := 1) (m := m) (enters_of Tryz.func71 (by kernel_rfl) rfl) hK [12] 1 (w.heap.size + 1) rfl (by decide) (by decide) k w2 (HP1.out.below hb2) hk (fun j o hj => by match j, hj with | 0, hj => cases hj; exact cell_of_blkP hG (j := 0) rfl | j + 1, hj => simp at hj) (by omega))
 have HW2 := Lib.hid hw2
 have HB2 := Lib.hid hb2
 have hsz2 : w2.heap.size = w.heap.size + 2 := by rw [hw2]; simp; omega
 have HR2 := Lib.hid (gr_at (gr_below hb2 none) HR.out (fun h => by cases h))
 clear hb2 hG hw2 hK
 go_enter Tryz.func33, Tryz.ntmps33
 go_upto_region 1 with fail
 rw [← HW1.out]
 go_wp2_with fail
 rw [← HW2.out]
 refine K.out.mono ?_
 rintro e' w3 ⟨hg_, ⟨e, v, k2, hev, rfl, ⟨a, rfl, hbd, hsl⟩, hlt, hp3⟩ | ⟨k2, t, hev_, rfl, hle_, hkn_, ht_⟩⟩
 ·obtain ⟨pa, ca, rfl, _⟩ := hsl.form
  obtain ⟨AN, hAN⟩ : ∃ q, e.args.length = q := ⟨_, rfl⟩
  rw [hAN] at hsl ⊢
  have hrb := gr_at hg_ HR2.out (by intro h; injection h; omega)
  have r0 := cell_of_blkP hrb (j := 0) (u := .int .i64 0) rfl
  have f0 := blk_free hrb 0
  have r1 := cell_of_blkP hrb (j := 1) (u := .int .i64 0) rfl
  have f1 := blk_free hrb 1
  have r2 := cell_of_blkP hrb (j := 2) (u := .int .i64 0) rfl
  have f2 := blk_free hrb 2
  have r3 := cell_of_blkP hrb (j := 3) (u := .string ⟨#[]⟩) rfl
  have f3 := blk_free hrb 3
  have r4 := cell_of_blkP hrb (j := 4) (u := .bool false) rfl
  have f4 := blk_free hrb 4
  have r5 := cell_of_blkP hrb (j := 5) (u := .slice none 0 0) rfl
  have f5 := blk_free hrb 5
  have HRB := Lib.hid hrb
  have HG := Lib.hid (gr_trans (gr_below (below_next HB1.out HB2.out) (some P)) hg_)
  have HSL := Lib.hid hsl
  have HEV := Lib.hid hev
  have HP3 := Lib.hid hp3
  have HBD := Lib.hid hbd
  clear hrb hg_ hsl hev hp3 hAN hbd
  unfold exprV
  go_wp2_with fail
  have hS := set6_blk (.int .i64 e.kind) (.int .i64 e.op) (.int .i64 e.int) (.string e.name) (.bool e.at_) (.slice pa AN ca) HRB.out
  have hgs := set6_gr w3 w.heap.size (.int .i64 e.kind) (.int .i64 e.op) (.int .i64 e.int) (.string e.name) (.bool e.at_) (.slice pa AN ca)
  refine bodyPost_ret (v := exprV e (.slice pa AN ca)) (results_cell_row Tryz.results33 _ _ w.heap.size _ _ _ _ rfl hS Tryz.underlying33 rfl (by kernel_rfl)) rfl ?_
  exact ⟨gr_new HG.out hgs (Nat.le_refl _), .inl ⟨e, _, k2, .step (fun f => Pa.pE_0 f _) HEV.out, rfl, ⟨_, rfl, HBD.out, HSL.out.inc (up_step hgs (by intro k hk; injection hk; simp; omega) (by intro k hk h; simp only [List.not_mem_nil, or_false] at h ⊢; omega))⟩, hlt, HP3.out.keep hgs (by intro h; injection h; omega) (by intro h; injection h; omega)⟩⟩
 ·have H2 := Lib.hid (show PQ L n tbk tc P k (fun f ts => Pa.pE f 0 ts) rdE w (.panicked (failV t.pos)) w3 from ⟨gr_trans (gr_below (below_next HB1.out HB2.out) (some P)) hg_, .inr ⟨k2, t, .step (fun f => Pa.pE_0 f _) hev_, rfl, hle_, hkn_, ht_⟩⟩)
  clear hev_ hle_ hkn_ ht_ hg_
  go_wp2_with fail
  exact ⟨rfl, H2.out⟩
set_option maxRecDepth 100000 in
set_option maxHeartbeats 8000000 in
theorem and_of {L : List Lex.Tok} {n tbk tc P m : Nat} (hL : Pa.TkL L n) (hK : EC L n tbk tc P 123 2 m) : EC L n tbk tc P 71 1 m := by
 intro k w hp hk
 have hb1 := below_box w (.cells #[.int .i64 0, .int .i64 0, .int .i64 0, .string ⟨#[]⟩, .bool false, .slice none 0 0] 33)
 have hR := new_at (w := w) (o := .cells #[.int .i64 0, .int .i64 0, .int .i64 0, .string ⟨#[]⟩, .bool false, .slice none 0 0] 33) rfl
 obtain ⟨w1, hw1⟩ : ∃ q, q = w.alloc (.cells #[.int .i64 0, .int .i64 0, .int .i64 0, .string ⟨#[]⟩, .bool false, .slice none 0 0] 33) := ⟨_, rfl⟩
 rw [← hw1] at hb1 hR
 have HW1 := Lib.hid hw1
 have HR := Lib.hid hR
 have HB1 := Lib.hid hb1
 have HP1 := Lib.hid (hp.below hb1)
 have hplt := hp.plt
 have htlt := hp.lt
 have HL := Lib.hid hL
 have hsz1 : w1.heap.size = w.heap.size + 1 := by rw [hw1]; simp
 clear hb1 hR hw1 hp hL
 have hmf := mkFunc
 have hb2 := below_box w1 (.cells #[.string ⟨#[97, 110, 100]⟩] 9)
 have hG := new_at (w := w1) (o := .cells #[.string ⟨#[97, 110, 100]⟩] 9) rfl
 obtain ⟨w2, hw2⟩ : ∃ q, q = w1.alloc (.cells #[.string ⟨#[97, 110, 100]⟩] 9) := ⟨_, rfl⟩
 rw [← hw2] at hb2 hG
 rw [hsz1] at hG
 have K := Lib.hid (left_of HL.out (F := 123) (lv := 2) (m := m) (enters_of Tryz.func123 (by kernel_rfl) rfl) hK [11] 1 (w.heap.size + 1) rfl (by decide) (by decide) k w2 (HP1.out.below hb2) hk (fun j o hj => by match j, hj with | 0, hj => cases hj; exact cell_of_blkP hG (j := 0) rfl | j + 1, hj => simp at hj) (by omega))
 have HW2 := Lib.hid hw2
 have HB2 := Lib.hid hb2
 have hsz2 : w2.heap.size = w.heap.size + 2 := by rw [hw2]; simp; omega
 have HR2 := Lib.hid (gr_at (gr_below hb2 none) HR.out (fun h => by cases h))
 clear hb2 hG hw2 hK
 go_enter Tryz.func71, Tryz.ntmps71
 go_upto_region 1 with fail
 rw [← HW1.out]
 go_wp2_with fail
 rw [← HW2.out]
 refine K.out.mono ?_
 rintro e' w3 ⟨hg_, ⟨e, v, k2, hev, rfl, ⟨a, rfl, hbd, hsl⟩, hlt, hp3⟩ | ⟨k2, t, hev_, rfl, hle_, hkn_, ht_⟩⟩
 ·obtain ⟨pa, ca, rfl, _⟩ := hsl.form
  obtain ⟨AN, hAN⟩ : ∃ q, e.args.length = q := ⟨_, rfl⟩
  rw [hAN] at hsl ⊢
  have hrb := gr_at hg_ HR2.out (by intro h; injection h; omega)
  have r0 := cell_of_blkP hrb (j := 0) (u := .int .i64 0) rfl
  have f0 := blk_free hrb 0
  have r1 := cell_of_blkP hrb (j := 1) (u := .int .i64 0) rfl
  have f1 := blk_free hrb 1
  have r2 := cell_of_blkP hrb (j := 2) (u := .int .i64 0) rfl
  have f2 := blk_free hrb 2
  have r3 := cell_of_blkP hrb (j := 3) (u := .string ⟨#[]⟩) rfl
  have f3 := blk_free hrb 3
  have r4 := cell_of_blkP hrb (j := 4) (u := .bool false) rfl
  have f4 := blk_free hrb 4
  have r5 := cell_of_blkP hrb (j := 5) (u := .slice none 0 0) rfl
  have f5 := blk_free hrb 5
  have HRB := Lib.hid hrb
  have HG := Lib.hid (gr_trans (gr_below (below_next HB1.out HB2.out) (some P)) hg_)
  have HSL := Lib.hid hsl
  have HEV := Lib.hid hev
  have HP3 := Lib.hid hp3
  have HBD := Lib.hid hbd
  clear hrb hg_ hsl hev hp3 hAN hbd
  unfold exprV
  go_wp2_with fail
  have hS := set6_blk (.int .i64 e.kind) (.int .i64 e.op) (.int .i64 e.int) (.string e.name) (.bool e.at_) (.slice pa AN ca) HRB.out
  have hgs := set6_gr w3 w.heap.size (.int .i64 e.kind) (.int .i64 e.op) (.int .i64 e.int) (.string e.name) (.bool e.at_) (.slice pa AN ca)
  refine bodyPost_ret (v := exprV e (.slice pa AN ca)) (results_cell_row Tryz.results71 _ _ w.heap.size _ _ _ _ rfl hS Tryz.underlying33 rfl (by kernel_rfl)) rfl ?_
  exact ⟨gr_new HG.out hgs (Nat.le_refl _), .inl ⟨e, _, k2, .step (fun f => Pa.pE_1 f _) HEV.out, rfl, ⟨_, rfl, HBD.out, HSL.out.inc (up_step hgs (by intro k hk; injection hk; simp; omega) (by intro k hk h; simp only [List.not_mem_nil, or_false] at h ⊢; omega))⟩, hlt, HP3.out.keep hgs (by intro h; injection h; omega) (by intro h; injection h; omega)⟩⟩
 ·have H2 := Lib.hid (show PQ L n tbk tc P k (fun f ts => Pa.pE f 1 ts) rdE w (.panicked (failV t.pos)) w3 from ⟨gr_trans (gr_below (below_next HB1.out HB2.out) (some P)) hg_, .inr ⟨k2, t, .step (fun f => Pa.pE_1 f _) hev_, rfl, hle_, hkn_, ht_⟩⟩)
  clear hev_ hle_ hkn_ ht_ hg_
  go_wp2_with fail
  exact ⟨rfl, H2.out⟩
set_option maxRecDepth 100000 in
set_option maxHeartbeats 8000000 in
theorem sum_of {L : List Lex.Tok} {n tbk tc P m : Nat} (hL : Pa.TkL L n) (hK : EC L n tbk tc P 199 5 m) : EC L n tbk tc P 178 4 m := by
 intro k w hp hk
 have hb1 := below_box w (.cells #[.int .i64 0, .int .i64 0, .int .i64 0, .string ⟨#[]⟩, .bool false, .slice none 0 0] 33)
 have hR := new_at (w := w) (o := .cells #[.int .i64 0, .int .i64 0, .int .i64 0, .string ⟨#[]⟩, .bool false, .slice none 0 0] 33) rfl
 obtain ⟨w1, hw1⟩ : ∃ q, q = w.alloc (.cells #[.int .i64 0, .int .i64 0, .int .i64 0, .string ⟨#[]⟩, .bool false, .slice none 0 0] 33) := ⟨_, rfl⟩
 rw [← hw1] at hb1 hR
 have HW1 := Lib.hid hw1
 have HR := Lib.hid hR
 have HB1 := Lib.hid hb1
 have HP1 := Lib.hid (hp.below hb1)
 have hplt := hp.plt
 have htlt := hp.lt
 have HL := Lib.hid hL
 have hsz1 : w1.heap.size = w.heap.size + 1 := by rw [hw1]; simp
 clear hb1 hR hw1 hp hL
 have hmf := mkFunc
 have hb2 := below_box w1 (.cells #[.string ⟨#[43]⟩, .string ⟨#[45]⟩] 9)
 have hG := new_at (w := w1) (o := .cells #[.string ⟨#[43]⟩, .string ⟨#[45]⟩] 9) rfl
 obtain ⟨w2, hw2⟩ : ∃ q, q = w1.alloc (.cells #[.string ⟨#[43]⟩, .string ⟨#[45]⟩] 9) := ⟨_, rfl⟩
 rw [← hw2] at hb2 hG
 rw [hsz1] at hG
 have K := Lib.hid (left_of HL.out (F := 199) (lv := 5) (m := m) (enters_of Tryz.func199 (by kernel_rfl) rfl) hK [0, 1] 2 (w.heap.size + 1) rfl (by decide) (by decide) k w2 (HP1.out.below hb2) hk (fun j o hj => by match j, hj with | 0, hj => cases hj; exact cell_of_blkP hG (j := 0) rfl | 1, hj => cases hj; exact cell_of_blkP hG (j := 1) rfl | j + 2, hj => simp at hj) (by omega))
 have HW2 := Lib.hid hw2
 have HB2 := Lib.hid hb2
 have hsz2 : w2.heap.size = w.heap.size + 2 := by rw [hw2]; simp; omega
 have HR2 := Lib.hid (gr_at (gr_below hb2 none) HR.out (fun h => by cases h))
 clear hb2 hG hw2 hK
 go_enter Tryz.func178, Tryz.ntmps178
 go_upto_region 1 with fail
 rw [← HW1.out]
 go_wp2_with fail
 rw [← HW2.out]
 refine K.out.mono ?_
 rintro e' w3 ⟨hg_, ⟨e, v, k2, hev, rfl, ⟨a, rfl, hbd, hsl⟩, hlt, hp3⟩ | ⟨k2, t, hev_, rfl, hle_, hkn_, ht_⟩⟩
 ·obtain ⟨pa, ca, rfl, _⟩ := hsl.form
  obtain ⟨AN, hAN⟩ : ∃ q, e.args.length = q := ⟨_, rfl⟩
  rw [hAN] at hsl ⊢
  have hrb := gr_at hg_ HR2.out (by intro h; injection h; omega)
  have r0 := cell_of_blkP hrb (j := 0) (u := .int .i64 0) rfl
  have f0 := blk_free hrb 0
  have r1 := cell_of_blkP hrb (j := 1) (u := .int .i64 0) rfl
  have f1 := blk_free hrb 1
  have r2 := cell_of_blkP hrb (j := 2) (u := .int .i64 0) rfl
  have f2 := blk_free hrb 2
  have r3 := cell_of_blkP hrb (j := 3) (u := .string ⟨#[]⟩) rfl
  have f3 := blk_free hrb 3
  have r4 := cell_of_blkP hrb (j := 4) (u := .bool false) rfl
  have f4 := blk_free hrb 4
  have r5 := cell_of_blkP hrb (j := 5) (u := .slice none 0 0) rfl
  have f5 := blk_free hrb 5
  have HRB := Lib.hid hrb
  have HG := Lib.hid (gr_trans (gr_below (below_next HB1.out HB2.out) (some P)) hg_)
  have HSL := Lib.hid hsl
  have HEV := Lib.hid hev
  have HP3 := Lib.hid hp3
  have HBD := Lib.hid hbd
  clear hrb hg_ hsl hev hp3 hAN hbd
  unfold exprV
  go_wp2_with fail
  have hS := set6_blk (.int .i64 e.kind) (.int .i64 e.op) (.int .i64 e.int) (.string e.name) (.bool e.at_) (.slice pa AN ca) HRB.out
  have hgs := set6_gr w3 w.heap.size (.int .i64 e.kind) (.int .i64 e.op) (.int .i64 e.int) (.string e.name) (.bool e.at_) (.slice pa AN ca)
  refine bodyPost_ret (v := exprV e (.slice pa AN ca)) (results_cell_row Tryz.results178 _ _ w.heap.size _ _ _ _ rfl hS Tryz.underlying33 rfl (by kernel_rfl)) rfl ?_
  exact ⟨gr_new HG.out hgs (Nat.le_refl _), .inl ⟨e, _, k2, .step (fun f => Pa.pE_4 f _) HEV.out, rfl, ⟨_, rfl, HBD.out, HSL.out.inc (up_step hgs (by intro k hk; injection hk; simp; omega) (by intro k hk h; simp only [List.not_mem_nil, or_false] at h ⊢; omega))⟩, hlt, HP3.out.keep hgs (by intro h; injection h; omega) (by intro h; injection h; omega)⟩⟩
 ·have H2 := Lib.hid (show PQ L n tbk tc P k (fun f ts => Pa.pE f 4 ts) rdE w (.panicked (failV t.pos)) w3 from ⟨gr_trans (gr_below (below_next HB1.out HB2.out) (some P)) hg_, .inr ⟨k2, t, .step (fun f => Pa.pE_4 f _) hev_, rfl, hle_, hkn_, ht_⟩⟩)
  clear hev_ hle_ hkn_ ht_ hg_
  go_wp2_with fail
  exact ⟨rfl, H2.out⟩
set_option maxRecDepth 100000 in
set_option maxHeartbeats 8000000 in
theorem product_of {L : List Lex.Tok} {n tbk tc P m : Nat} (hL : Pa.TkL L n) (hK : EC L n tbk tc P 218 6 m) : EC L n tbk tc P 199 5 m := by
 intro k w hp hk
 have hb1 := below_box w (.cells #[.int .i64 0, .int .i64 0, .int .i64 0, .string ⟨#[]⟩, .bool false, .slice none 0 0] 33)
 have hR := new_at (w := w) (o := .cells #[.int .i64 0, .int .i64 0, .int .i64 0, .string ⟨#[]⟩, .bool false, .slice none 0 0] 33) rfl
 obtain ⟨w1, hw1⟩ : ∃ q, q = w.alloc (.cells #[.int .i64 0, .int .i64 0, .int .i64 0, .string ⟨#[]⟩, .bool false, .slice none 0 0] 33) := ⟨_, rfl⟩
 rw [← hw1] at hb1 hR
 have HW1 := Lib.hid hw1
 have HR := Lib.hid hR
 have HB1 := Lib.hid hb1
 have HP1 := Lib.hid (hp.below hb1)
 have hplt := hp.plt
 have htlt := hp.lt
 have HL := Lib.hid hL
 have hsz1 : w1.heap.size = w.heap.size + 1 := by rw [hw1]; simp
 clear hb1 hR hw1 hp hL
 have hmf := mkFunc
 have hb2 := below_box w1 (.cells #[.string ⟨#[42]⟩, .string ⟨#[47]⟩, .string ⟨#[37]⟩] 9)
 have hG := new_at (w := w1) (o := .cells #[.string ⟨#[42]⟩, .string ⟨#[47]⟩, .string ⟨#[37]⟩] 9) rfl
 obtain ⟨w2, hw2⟩ : ∃ q, q = w1.alloc (.cells #[.string ⟨#[42]⟩, .string ⟨#[47]⟩, .string ⟨#[37]⟩] 9) := ⟨_, rfl⟩
 rw [← hw2] at hb2 hG
 rw [hsz1] at hG
 have K := Lib.hid (left_of HL.out (F := 218) (lv := 6) (m := m) (enters_of Tryz.func218 (by kernel_rfl) rfl) hK [2, 3, 4] 3 (w.heap.size + 1) rfl (by decide) (by decide) k w2 (HP1.out.below hb2) hk (fun j o hj => by match j, hj with | 0, hj => cases hj; exact cell_of_blkP hG (j := 0) rfl | 1, hj => cases hj; exact cell_of_blkP hG (j := 1) rfl | 2, hj => cases hj; exact cell_of_blkP hG (j := 2) rfl | j + 3, hj => simp at hj) (by omega))
 have HW2 := Lib.hid hw2
 have HB2 := Lib.hid hb2
 have hsz2 : w2.heap.size = w.heap.size + 2 := by rw [hw2]; simp; omega
 have HR2 := Lib.hid (gr_at (gr_below hb2 none) HR.out (fun h => by cases h))
 clear hb2 hG hw2 hK
 go_enter Tryz.func199, Tryz.ntmps199
 go_upto_region 1 with fail
 rw [← HW1.out]
 go_wp2_with fail
 rw [← HW2.out]
 refine K.out.mono ?_
 rintro e' w3 ⟨hg_, ⟨e, v, k2, hev, rfl, ⟨a, rfl, hbd, hsl⟩, hlt, hp3⟩ | ⟨k2, t, hev_, rfl, hle_, hkn_, ht_⟩⟩
 ·obtain ⟨pa, ca, rfl, _⟩ := hsl.form
  obtain ⟨AN, hAN⟩ : ∃ q, e.args.length = q := ⟨_, rfl⟩
  rw [hAN] at hsl ⊢
  have hrb := gr_at hg_ HR2.out (by intro h; injection h; omega)
  have r0 := cell_of_blkP hrb (j := 0) (u := .int .i64 0) rfl
  have f0 := blk_free hrb 0
  have r1 := cell_of_blkP hrb (j := 1) (u := .int .i64 0) rfl
  have f1 := blk_free hrb 1
  have r2 := cell_of_blkP hrb (j := 2) (u := .int .i64 0) rfl
  have f2 := blk_free hrb 2
  have r3 := cell_of_blkP hrb (j := 3) (u := .string ⟨#[]⟩) rfl
  have f3 := blk_free hrb 3
  have r4 := cell_of_blkP hrb (j := 4) (u := .bool false) rfl
  have f4 := blk_free hrb 4
  have r5 := cell_of_blkP hrb (j := 5) (u := .slice none 0 0) rfl
  have f5 := blk_free hrb 5
  have HRB := Lib.hid hrb
  have HG := Lib.hid (gr_trans (gr_below (below_next HB1.out HB2.out) (some P)) hg_)
  have HSL := Lib.hid hsl
  have HEV := Lib.hid hev
  have HP3 := Lib.hid hp3
  have HBD := Lib.hid hbd
  clear hrb hg_ hsl hev hp3 hAN hbd
  unfold exprV
  go_wp2_with fail
  have hS := set6_blk (.int .i64 e.kind) (.int .i64 e.op) (.int .i64 e.int) (.string e.name) (.bool e.at_) (.slice pa AN ca) HRB.out
  have hgs := set6_gr w3 w.heap.size (.int .i64 e.kind) (.int .i64 e.op) (.int .i64 e.int) (.string e.name) (.bool e.at_) (.slice pa AN ca)
  refine bodyPost_ret (v := exprV e (.slice pa AN ca)) (results_cell_row Tryz.results199 _ _ w.heap.size _ _ _ _ rfl hS Tryz.underlying33 rfl (by kernel_rfl)) rfl ?_
  exact ⟨gr_new HG.out hgs (Nat.le_refl _), .inl ⟨e, _, k2, .step (fun f => Pa.pE_5 f _) HEV.out, rfl, ⟨_, rfl, HBD.out, HSL.out.inc (up_step hgs (by intro k hk; injection hk; simp; omega) (by intro k hk h; simp only [List.not_mem_nil, or_false] at h ⊢; omega))⟩, hlt, HP3.out.keep hgs (by intro h; injection h; omega) (by intro h; injection h; omega)⟩⟩
 ·have H2 := Lib.hid (show PQ L n tbk tc P k (fun f ts => Pa.pE f 5 ts) rdE w (.panicked (failV t.pos)) w3 from ⟨gr_trans (gr_below (below_next HB1.out HB2.out) (some P)) hg_, .inr ⟨k2, t, .step (fun f => Pa.pE_5 f _) hev_, rfl, hle_, hkn_, ht_⟩⟩)
  clear hev_ hle_ hkn_ ht_ hg_
  go_wp2_with fail
  exact ⟨rfl, H2.out⟩
end Go.Proofs.YtdckddkalgnlpaaGreatDoor
