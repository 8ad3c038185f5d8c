/-
  The reference's expr, walked: each level.
-/
import Derived.Test.YtdckddkalgnlpaaGreatDoorA15
import Derived.Test.YtdckddkalgnlpaaGreatDoorA17
namespace Go.Proofs.YtdckddkalgnlpaaGreatDoor
open Go.RowKit Go.Maps Pw
set_option maxRecDepth 100000 in
set_option maxHeartbeats 8000000 in
theorem expr_bad {L : List Lex.Tok} {n tbk tc P k : Nat} {w : World} (hL : Pa.TkL L n) (hp : RS L n tbk tc P k true w) (li : Int) (p : Nat → Pa.Toks → Pa.R Tr.E) : Calls Tryz.prog 35 #[.pointer (some ⟨P, 0, none⟩), .int .i64 li] w (RQ L n tbk tc P k true p rdE w) := by
 obtain ⟨w19, HW, C19⟩ := (Cr.start hL hp (fun f ts => p f ts)).boxR #[.int .i64 0, .int .i64 0, .int .i64 0, .string ⟨#[]⟩, .bool false, .slice none 0 0] 33
 clear hL hp
 go_enter Tryz.func35, Tryz.ntmps35
 go_upto_region 1 with fail
 rw [← HW.out]
 clear HW
 have p2 := cell_of_blkP C19.out.ps.blk (j := 2) (u := .bool true) rfl
 obtain ⟨l0, c00, f00, c01, f01, c02, f02, c03, f03, c04, f04, c05, f05⟩ := cells6 (C19.out.m.b 0 rfl)
 go_wp2_with fail
 exact C19.out.dead.retE (x := Pa.leaf 0) 0 rfl trivial Tryz.results35 rfl rfl (fun U b o => ⟨bd_leaf (by decide) (by decide), .nil none 0⟩)
theorem ints_at {W : World} {X : Nat} {ops : List Nat} {t : TypeId} (h : W.heap[X]? = some (.cells (ops.map fun o : Nat => (.int .i64 o : Value)).toArray t (0, 0))) {j o : Nat} (hj : ops[j]? = some o) : W.cell? ⟨X, j, none⟩ = some (.int .i64 o) := cell_of_blkP h (j := j) (u := .int .i64 o) (by simp [hj])
set_option maxRecDepth 100000 in
set_option maxHeartbeats 8000000 in
theorem expr0_of {L : List Lex.Tok} {n tbk tc P m : Nat} (hL : Pa.TkL L n) (hF : RLC L n tbk tc P 1 1 [12] 1 m) : RE L n tbk tc P 0 0 m := by
 intro k b w hp hk
 cases b with
 | true => exact expr_bad hL hp _ _
 | false =>
   have HLF := Lib.hid hF
   clear hF
   obtain ⟨w20, HW, C20⟩ := ((Cr.start hL hp (fun f ts => Pa.pE f 0 ts)).spec Pa.pE_0).boxR #[.int .i64 0, .int .i64 0, .int .i64 0, .string ⟨#[]⟩, .bool false, .slice none 0 0] 33
   clear hL hp
   go_enter Tryz.func35, Tryz.ntmps35
   go_upto_region 1 with fail
   rw [← HW.out]
   clear HW
   have p2 := cell_of_blkP C20.out.ps.blk (j := 2) (u := .bool false) rfl
   have C21 := Lib.hid (C20.out.spc (G' := fun f ts => ((Pa.pE f 1 ts).bind fun a r => Pa.pL f 1 (opL [12]) a r).bind fun a r => .ok a r) (fun f ts => Pa.R.eta _))
   clear C20
   obtain ⟨XO, w22, HX, HW, hx22, C22⟩ := C21.out.boxE #[.int .i64 12] 3
   go_wp2_with fail
   rw [← HX.out, ← HW.out]
   clear HX HW C21
   refine (C22.out.callE (HLF.out XO _ _ _ C22.out.ps hk (fun h => by have h1 := C22.out.m.pw; have h2 := (C22.out.m.lt 0 rfl).1; omega) (fun j o hj => ints_at (C22.out.m.b 0 rfl) hj))).mono ?_
   rintro e w23 ⟨x1, p1, N1, c1, k1, b1, rfl, hlt1, hn1, -, C23⟩
   clear C22
   obtain ⟨l1, c10, f10, c11, f11, c12, f12, c13, f13, c14, f14, c15, f15⟩ := cells6 (C23.out.m.b 1 rfl)
   go_wp2_with fail
   exact C23.out.retE (x := x1) 1 rfl trivial Tryz.results35 rfl rfl (fun U b o => o 0 rfl)
set_option maxRecDepth 100000 in
set_option maxHeartbeats 8000000 in
theorem expr1_of {L : List Lex.Tok} {n tbk tc P m : Nat} (hL : Pa.TkL L n) (hF : RLC L n tbk tc P 2 2 [11] 1 m) : RE L n tbk tc P 1 1 m := by
 intro k b w hp hk
 cases b with
 | true => exact expr_bad hL hp _ _
 | false =>
   have HLF := Lib.hid hF
   clear hF
   obtain ⟨w24, HW, C24⟩ := ((Cr.start hL hp (fun f ts => Pa.pE f 1 ts)).spec Pa.pE_1).boxR #[.int .i64 0, .int .i64 0, .int .i64 0, .string ⟨#[]⟩, .bool false, .slice none 0 0] 33
   clear hL hp
   go_enter Tryz.func35, Tryz.ntmps35
   go_upto_region 1 with fail
   rw [← HW.out]
   clear HW
   have p2 := cell_of_blkP C24.out.ps.blk (j := 2) (u := .bool false) rfl
   have C25 := Lib.hid (C24.out.spc (G' := fun f ts => ((Pa.pE f 2 ts).bind fun a r => Pa.pL f 2 (opL [11]) a r).bind fun a r => .ok a r) (fun f ts => Pa.R.eta _))
   clear C24
   obtain ⟨XO, w26, HX, HW, hx26, C26⟩ := C25.out.boxE #[.int .i64 11] 3
   go_wp2_with fail
   rw [← HX.out, ← HW.out]
   clear HX HW C25
   refine (C26.out.callE (HLF.out XO _ _ _ C26.out.ps hk (fun h => by have h1 := C26.out.m.pw; have h2 := (C26.out.m.lt 0 rfl).1; omega) (fun j o hj => ints_at (C26.out.m.b 0 rfl) hj))).mono ?_
   rintro e w27 ⟨x1, p1, N1, c1, k1, b1, rfl, hlt1, hn1, -, C27⟩
   clear C26
   obtain ⟨l1, c10, f10, c11, f11, c12, f12, c13, f13, c14, f14, c15, f15⟩ := cells6 (C27.out.m.b 1 rfl)
   go_wp2_with fail
   exact C27.out.retE (x := x1) 1 rfl trivial Tryz.results35 rfl rfl (fun U b o => o 0 rfl)
set_option maxRecDepth 100000 in
set_option maxHeartbeats 8000000 in
theorem expr4_of {L : List Lex.Tok} {n tbk tc P m : Nat} (hL : Pa.TkL L n) (hF : RLC L n tbk tc P 5 5 [0, 1] 2 m) : RE L n tbk tc P 4 4 m := by
 intro k b w hp hk
 cases b with
 | true => exact expr_bad hL hp _ _
 | false =>
   have HLF := Lib.hid hF
   clear hF
   obtain ⟨w28, HW, C28⟩ := ((Cr.start hL hp (fun f ts => Pa.pE f 4 ts)).spec Pa.pE_4).boxR #[.int .i64 0, .int .i64 0, .int .i64 0, .string ⟨#[]⟩, .bool false, .slice none 0 0] 33
   clear hL hp
   go_enter Tryz.func35, Tryz.ntmps35
   go_upto_region 1 with fail
   rw [← HW.out]
   clear HW
   have p2 := cell_of_blkP C28.out.ps.blk (j := 2) (u := .bool false) rfl
   have C29 := Lib.hid (C28.out.spc (G' := fun f ts => ((Pa.pE f 5 ts).bind fun a r => Pa.pL f 5 (opL [0, 1]) a r).bind fun a r => .ok a r) (fun f ts => Pa.R.eta _))
   clear C28
   obtain ⟨XO, w30, HX, HW, hx30, C30⟩ := C29.out.boxE #[.int .i64 0, .int .i64 1] 3
   go_wp2_with fail
   rw [← HX.out, ← HW.out]
   clear HX HW C29
   refine (C30.out.callE (HLF.out XO _ _ _ C30.out.ps hk (fun h => by have h1 := C30.out.m.pw; have h2 := (C30.out.m.lt 0 rfl).1; omega) (fun j o hj => ints_at (C30.out.m.b 0 rfl) hj))).mono ?_
   rintro e w31 ⟨x1, p1, N1, c1, k1, b1, rfl, hlt1, hn1, -, C31⟩
   clear C30
   obtain ⟨l1, c10, f10, c11, f11, c12, f12, c13, f13, c14, f14, c15, f15⟩ := cells6 (C31.out.m.b 1 rfl)
   go_wp2_with fail
   exact C31.out.retE (x := x1) 1 rfl trivial Tryz.results35 rfl rfl (fun U b o => o 0 rfl)
set_option maxRecDepth 100000 in
set_option maxHeartbeats 8000000 in
theorem expr5_of {L : List Lex.Tok} {n tbk tc P m : Nat} (hL : Pa.TkL L n) (hF : RLC L n tbk tc P 6 6 [2, 3, 4] 3 m) : RE L n tbk tc P 5 5 m := by
 intro k b w hp hk
 cases b with
 | true => exact expr_bad hL hp _ _
 | false =>
   have HLF := Lib.hid hF
   clear hF
   obtain ⟨w32, HW, C32⟩ := ((Cr.start hL hp (fun f ts => Pa.pE f 5 ts)).spec Pa.pE_5).boxR #[.int .i64 0, .int .i64 0, .int .i64 0, .string ⟨#[]⟩, .bool false, .slice none 0 0] 33
   clear hL hp
   go_enter Tryz.func35, Tryz.ntmps35
   go_upto_region 1 with fail
   rw [← HW.out]
   clear HW
   have p2 := cell_of_blkP C32.out.ps.blk (j := 2) (u := .bool false) rfl
   have C33 := Lib.hid (C32.out.spc (G' := fun f ts => ((Pa.pE f 6 ts).bind fun a r => Pa.pL f 6 (opL [2, 3, 4]) a r).bind fun a r => .ok a r) (fun f ts => Pa.R.eta _))
   clear C32
   obtain ⟨XO, w34, HX, HW, hx34, C34⟩ := C33.out.boxE #[.int .i64 2, .int .i64 3, .int .i64 4] 3
   go_wp2_with fail
   rw [← HX.out, ← HW.out]
   clear HX HW C33
   refine (C34.out.callE (HLF.out XO _ _ _ C34.out.ps hk (fun h => by have h1 := C34.out.m.pw; have h2 := (C34.out.m.lt 0 rfl).1; omega) (fun j o hj => ints_at (C34.out.m.b 0 rfl) hj))).mono ?_
   rintro e w35 ⟨x1, p1, N1, c1, k1, b1, rfl, hlt1, hn1, -, C35⟩
   clear C34
   obtain ⟨l1, c10, f10, c11, f11, c12, f12, c13, f13, c14, f14, c15, f15⟩ := cells6 (C35.out.m.b 1 rfl)
   go_wp2_with fail
   exact C35.out.retE (x := x1) 1 rfl trivial Tryz.results35 rfl rfl (fun U b o => o 0 rfl)
set_option maxRecDepth 100000 in
set_option maxHeartbeats 8000000 in
theorem expr2_of {L : List Lex.Tok} {n tbk tc P m : Nat} (hL : Pa.TkL L n) (hC : RE L n tbk tc P 3 3 m) (hN : REL L n tbk tc P 2 2 m) : RE L n tbk tc P 2 2 m := by
 intro k b w hp hk
 cases b with
 | true => exact expr_bad hL hp _ _
 | false =>
   have HC := Lib.hid hC
   have HN := Lib.hid hN
   clear hC hN
   obtain ⟨w36, HW, C36⟩ := ((Cr.start hL hp (fun f ts => Pa.pE f 2 ts)).spec pE2o).boxR #[.int .i64 0, .int .i64 0, .int .i64 0, .string ⟨#[]⟩, .bool false, .slice none 0 0] 33
   clear hL hp
   go_enter Tryz.func35, Tryz.ntmps35
   go_upto_region 1 with fail
   rw [← HW.out]
   clear HW
   have p2 := cell_of_blkP C36.out.ps.blk (j := 2) (u := .bool false) rfl
   go_wp2_with fail
   refine (C36.out.take ⟨#[110, 111, 116]⟩ (by decide)).mono ?_
   rintro e w37 (⟨rfl, hlt38, -, C37⟩ | ⟨rfl, C37⟩)
   ·clear C36
    go_wp2_with fail
    refine (C37.out.callE (HN.out _ _ _ C37.out.ps (by omega))).mono ?_
    rintro e w39 ⟨x1, p1, N1, c1, k1, b1, rfl, hlt1, hn1, -, C39⟩
    clear C37
    go_wp2_with fail
    refine (C39.out.un 9 x1 (.slice p1 N1 c1)).mono ?_
    rintro e w40 ⟨g, rfl, C40⟩
    clear C39
    obtain ⟨l1, c10, f10, c11, f11, c12, f12, c13, f13, c14, f14, c15, f15⟩ := cells6 (C40.out.m.b 1 rfl)
    go_wp2_with fail
    exact C40.out.retE (x := Pa.un 9 x1) 1 rfl trivial Tryz.results35 rfl rfl (fun U b o => ⟨bd_un (by decide) (by decide) _, slE_blk1 (b 0 (by decide) rfl) (o 0 rfl).1 (o 0 rfl).2⟩)
   ·clear C36
    go_wp2_with fail
    refine (C37.out.callE (HC.out _ _ _ C37.out.ps hk)).mono ?_
    rintro e w41 ⟨x1, p1, N1, c1, k1, b1, rfl, hlt1, hn1, -, C41⟩
    clear C37
    obtain ⟨l0, c00, f00, c01, f01, c02, f02, c03, f03, c04, f04, c05, f05⟩ := cells6 (C41.out.m.b 0 rfl)
    go_wp2_with fail
    exact C41.out.retE (x := x1) 0 rfl trivial Tryz.results35 rfl rfl (fun U b o => o 0 rfl)
set_option maxRecDepth 100000 in
set_option maxHeartbeats 8000000 in
theorem expr6_of {L : List Lex.Tok} {n tbk tc P m : Nat} (hL : Pa.TkL L n) (hF : RE L n tbk tc P 7 7 m) (hU : REL L n tbk tc P 6 6 m) : RE L n tbk tc P 6 6 m := by
 intro k b w hp hk
 cases b with
 | true => exact expr_bad hL hp _ _
 | false =>
   have HF := Lib.hid hF
   have HU := Lib.hid hU
   clear hF hU
   obtain ⟨w42, HW, C42⟩ := ((Cr.start hL hp (fun f ts => Pa.pE f 6 ts)).spec pE6o).boxR #[.int .i64 0, .int .i64 0, .int .i64 0, .string ⟨#[]⟩, .bool false, .slice none 0 0] 33
   clear hL hp
   go_enter Tryz.func35, Tryz.ntmps35
   go_upto_region 1 with fail
   rw [← HW.out]
   clear HW
   have p2 := cell_of_blkP C42.out.ps.blk (j := 2) (u := .bool false) rfl
   go_wp2_with fail
   refine (C42.out.take ⟨#[45]⟩ (by decide)).mono ?_
   rintro e w43 (⟨rfl, hlt44, -, C43⟩ | ⟨rfl, C43⟩)
   ·clear C42
    go_wp2_with fail
    refine (C43.out.callE (HU.out _ _ _ C43.out.ps (by omega))).mono ?_
    rintro e w45 ⟨x1, p1, N1, c1, k1, b1, rfl, hlt1, hn1, -, C45⟩
    clear C43
    go_wp2_with fail
    refine (C45.out.un 8 x1 (.slice p1 N1 c1)).mono ?_
    rintro e w46 ⟨g, rfl, C46⟩
    clear C45
    obtain ⟨l1, c10, f10, c11, f11, c12, f12, c13, f13, c14, f14, c15, f15⟩ := cells6 (C46.out.m.b 1 rfl)
    go_wp2_with fail
    exact C46.out.retE (x := Pa.un 8 x1) 1 rfl trivial Tryz.results35 rfl rfl (fun U b o => ⟨bd_un (by decide) (by decide) _, slE_blk1 (b 0 (by decide) rfl) (o 0 rfl).1 (o 0 rfl).2⟩)
   ·clear C42
    go_wp2_with fail
    refine (C43.out.take ⟨#[119, 101, 97, 107]⟩ (by decide)).mono ?_
    rintro e w47 (⟨rfl, hlt48, -, C47⟩ | ⟨rfl, C47⟩)
    ·clear C43
     go_wp2_with fail
     refine (C47.out.callE (HU.out _ _ _ C47.out.ps (by omega))).mono ?_
     rintro e w49 ⟨x1, p1, N1, c1, k1, b1, rfl, hlt1, hn1, -, C49⟩
     clear C47
     go_wp2_with fail
     refine (C49.out.un 6 x1 (.slice p1 N1 c1)).mono ?_
     rintro e w50 ⟨g, rfl, C50⟩
     clear C49
     obtain ⟨l1, c10, f10, c11, f11, c12, f12, c13, f13, c14, f14, c15, f15⟩ := cells6 (C50.out.m.b 1 rfl)
     go_wp2_with fail
     exact C50.out.retE (x := Pa.un 6 x1) 1 rfl trivial Tryz.results35 rfl rfl (fun U b o => ⟨bd_un (by decide) (by decide) _, slE_blk1 (b 0 (by decide) rfl) (o 0 rfl).1 (o 0 rfl).2⟩)
    ·clear C43
     go_wp2_with fail
     refine (C47.out.take ⟨#[103, 101, 116]⟩ (by decide)).mono ?_
     rintro e w51 (⟨rfl, hlt52, -, C51⟩ | ⟨rfl, C51⟩)
     ·clear C47
      go_wp2_with fail
      refine (C51.out.callE (HU.out _ _ _ C51.out.ps (by omega))).mono ?_
      rintro e w53 ⟨x1, p1, N1, c1, k1, b1, rfl, hlt1, hn1, -, C53⟩
      clear C51
      go_wp2_with fail
      refine (C53.out.un 7 x1 (.slice p1 N1 c1)).mono ?_
      rintro e w54 ⟨g, rfl, C54⟩
      clear C53
      obtain ⟨l1, c10, f10, c11, f11, c12, f12, c13, f13, c14, f14, c15, f15⟩ := cells6 (C54.out.m.b 1 rfl)
      go_wp2_with fail
      exact C54.out.retE (x := Pa.un 7 x1) 1 rfl trivial Tryz.results35 rfl rfl (fun U b o => ⟨bd_un (by decide) (by decide) _, slE_blk1 (b 0 (by decide) rfl) (o 0 rfl).1 (o 0 rfl).2⟩)
     ·clear C47
      go_wp2_with fail
      refine (C51.out.callE (HF.out _ _ _ C51.out.ps hk)).mono ?_
      rintro e w55 ⟨x1, p1, N1, c1, k1, b1, rfl, hlt1, hn1, -, C55⟩
      clear C51
      obtain ⟨l0, c00, f00, c01, f01, c02, f02, c03, f03, c04, f04, c05, f05⟩ := cells6 (C55.out.m.b 0 rfl)
      go_wp2_with fail
      exact C55.out.retE (x := x1) 0 rfl trivial Tryz.results35 rfl rfl (fun U b o => o 0 rfl)
theorem op_some {ops : List Nat} {α : Type} {ts : Pa.Toks} {o : Int} {p : Int → α} {q : α} (h : Pa.opOf (opL ops) ts = some o) : (match Pa.opOf (opL ops) ts with | some o => p o | none => q) = p o := by rw [h]
theorem op_none {ops : List Nat} {α : Type} {ts : Pa.Toks} {p : Int → α} {q : α} (h : Pa.opOf (opL ops) ts = none) : (match Pa.opOf (opL ops) ts with | some o => p o | none => q) = q := by rw [h]
set_option maxRecDepth 100000 in
set_option maxHeartbeats 8000000 in
theorem expr3_of {L : List Lex.Tok} {n tbk tc P m : Nat} (hL : Pa.TkL L n) (h4 : RE L n tbk tc P 4 4 m) : RE L n tbk tc P 3 3 m := by
 intro k b w hp hk
 cases b with
 | true => exact expr_bad hL hp _ _
 | false =>
   have H4 := Lib.hid h4
   clear h4
   obtain ⟨w56, HW, C56⟩ := ((Cr.start hL hp (fun f ts => Pa.pE f 3 ts)).spec Pa.pE_3).boxR #[.int .i64 0, .int .i64 0, .int .i64 0, .string ⟨#[]⟩, .bool false, .slice none 0 0] 33
   clear hL hp
   go_enter Tryz.func35, Tryz.ntmps35
   go_upto_region 1 with fail
   rw [← HW.out]
   clear HW
   have p2 := cell_of_blkP C56.out.ps.blk (j := 2) (u := .bool false) rfl
   go_wp2_with fail
   refine (C56.out.callE (H4.out _ _ _ C56.out.ps hk)).mono ?_
   rintro e w57 ⟨x1, p1, N1, c1, k1, b1, rfl, hlt1, hn1, -, C57⟩
   clear C56
   obtain ⟨A, w58, HX, HW, hx58, C58⟩ := C57.out.boxE #[.int .i64 x1.kind, .int .i64 x1.op, .int .i64 x1.int, .string x1.name, .bool x1.at_, .slice p1 N1 c1] 33
   go_upto_region 14 with fail
   rw [← HX.out, ← HW.out]
   clear HX HW C57
   obtain ⟨XO, w59, HX, HW, hx59, C59⟩ := C58.out.boxE #[.int .i64 5, .int .i64 6, .int .i64 7, .int .i64 8, .int .i64 9, .int .i64 10] 3
   go_wp2_with fail
   rw [← HX.out, ← HW.out]
   clear HX HW C58
   refine (C59.out.op [5, 6, 7, 8, 9, 10] 6 XO rfl (by decide) (by decide) (p := fun o f ts => (Pa.pE f 4 ts).bind fun b r => .ok (Pa.bin o x1 b) r) (q := fun _ ts => .ok x1 ts) (fun o ho x hx => .cong (fun f => op_some (ops := [5, 6, 7, 8, 9, 10]) ho) hx) (fun ho x hx => .cong (fun f => op_none (ops := [5, 6, 7, 8, 9, 10]) ho) hx) (fun j o hj => ints_at (C59.out.m.b 0 rfl) hj)).mono ?_
   rintro e w60 (⟨o, rfl, ho12, hlt, C60⟩ | ⟨rfl, C60⟩)
   ·clear C59
    have hge : (0 : Int) ≤ (o : Int) := by omega
    go_upto_region 16 with fail
    have p1 := cell_of_blkP C60.out.ps.blk (j := 1) (u := .int .i64 k1) rfl
    have g1 := blk_free C60.out.ps.blk 1
    have hfew := C60.out.hL.few
    have hplt := C60.out.m.pw
    obtain ⟨w61, HW⟩ : ∃ q, Hid (q = w60.setCell ⟨P, 1, none⟩ (.int .i64 ((k1 : Nat) + 1))) := ⟨_, Lib.hid rfl⟩
    have C61 := Lib.hid (C60.out.inc (G := fun f ts => (Pa.pE f 4 ts).bind fun b r => .ok (Pa.bin o x1 b) r) hlt)
    rw [← HW.out] at C61
    go_upto_region 17 with fail
    rw [← HW.out]
    clear HW p1 g1 hfew hplt C60
    obtain ⟨w62, HW, C62⟩ := C61.out.drewE
    refine wp_region_held_drew (S := fun _ => True) (by kernel_rfl) trivial (fun _ => ?_)
    rw [← HW.out]
    clear HW C61
    refine rT 0 (some 50) ?_
    try simp only [Act.put, q0, q1, q2]
    refine rT 2 (some 52) ?_
    try simp only [Act.put, q0, q1, q2]
    refine rR2 1 (some 51) 3 (some 53) (fun K hK => ?_) (fun K hK => ?_)
    ·obtain ⟨l1, c10, f10, c11, f11, c12, f12, c13, f13, c14, f14, c15, f15⟩ := cells6 (C62.out.m.b 1 rfl)
     go_simp
     refine hK.out _ _ trivial (fun _ => ?_)
     clear hK K
     try simp only [Act.put, q0, q1, q2]
     clear l1 c10 f10 c11 f11 c12 f12 c13 f13 c14 f14 c15 f15
     refine rR1 3 (some 53) (fun K hK => ?_)
     go_simp
     refine (C62.out.callE (H4.out _ _ _ C62.out.ps (by omega))).mono ?_
     rintro e w63 ⟨x2, p2, N2, c2, k2, b2, rfl, hlt2, hn2, -, C63⟩
     clear C62
     go_wp2_with fail
     refine hK.out _ _ trivial (fun _ => ?_)
     clear hK K
     try simp only [Act.put, q0, q1, q2]
     refine rR1 4 (some 54) (fun K hK => ?_)
     go_simp
     refine (C63.out.bin o x1 x2 (.slice p1 N1 c1) (.slice p2 N2 c2)).mono ?_
     rintro e w64 ⟨g, rfl, C64⟩
     clear C63
     go_wp2_with fail
     refine hK.out _ _ trivial (fun _ => ?_)
     clear hK K
     try simp only [Act.put, q0, q1, q2]
     refine rR1 5 none (fun K hK => ?_)
     obtain ⟨l3, c30, f30, c31, f31, c32, f32, c33, f33, c34, f34, c35, f35⟩ := cells6 (C64.out.m.b 3 rfl)
     go_simp
     refine hK.out _ _ trivial (fun _ => ?_)
     clear hK K
     try simp only [Act.put, q0, q1, q2]
     refine wpAnyH_done (by kernel_rfl) ?_ _
     clear l3 c30 f30 c31 f31 c32 f32 c33 f33 c34 f34 c35 f35
     go_wp2_with fail
     exact C64.out.retE (x := Pa.bin o x1 x2) 3 rfl trivial Tryz.results35 rfl rfl (fun U b o => ⟨bd_bin ho12 _ _, slE_two (b 0 (by decide) rfl) (o 1 rfl) (o 0 rfl)⟩)
    ·go_simp
     refine (C62.out.callE (H4.out _ _ _ C62.out.ps (by omega))).mono ?_
     rintro e w65 ⟨x2, p2, N2, c2, k2, b2, rfl, hlt2, hn2, -, C65⟩
     clear C62
     go_wp2_with fail
     refine hK.out _ _ trivial (fun _ => ?_)
     clear hK K
     try simp only [Act.put, q0, q1, q2]
     refine rR1 1 (some 51) (fun K hK => ?_)
     obtain ⟨l1, c10, f10, c11, f11, c12, f12, c13, f13, c14, f14, c15, f15⟩ := cells6 (C65.out.m.b 1 rfl)
     go_simp
     refine hK.out _ _ trivial (fun _ => ?_)
     clear hK K
     try simp only [Act.put, q0, q1, q2]
     clear l1 c10 f10 c11 f11 c12 f12 c13 f13 c14 f14 c15 f15
     refine rR1 4 (some 54) (fun K hK => ?_)
     go_simp
     refine (C65.out.bin o x1 x2 (.slice p1 N1 c1) (.slice p2 N2 c2)).mono ?_
     rintro e w66 ⟨g, rfl, C66⟩
     clear C65
     go_wp2_with fail
     refine hK.out _ _ trivial (fun _ => ?_)
     clear hK K
     try simp only [Act.put, q0, q1, q2]
     refine rR1 5 none (fun K hK => ?_)
     obtain ⟨l3, c30, f30, c31, f31, c32, f32, c33, f33, c34, f34, c35, f35⟩ := cells6 (C66.out.m.b 3 rfl)
     go_simp
     refine hK.out _ _ trivial (fun _ => ?_)
     clear hK K
     try simp only [Act.put, q0, q1, q2]
     refine wpAnyH_done (by kernel_rfl) ?_ _
     clear l3 c30 f30 c31 f31 c32 f32 c33 f33 c34 f34 c35 f35
     go_wp2_with fail
     exact C66.out.retE (x := Pa.bin o x1 x2) 3 rfl trivial Tryz.results35 rfl rfl (fun U b o => ⟨bd_bin ho12 _ _, slE_two (b 0 (by decide) rfl) (o 1 rfl) (o 0 rfl)⟩)
   ·clear C59
    obtain ⟨l1, c10, f10, c11, f11, c12, f12, c13, f13, c14, f14, c15, f15⟩ := cells6 (C60.out.m.b 1 rfl)
    obtain ⟨l2, c20, f20, c21, f21, c22, f22, c23, f23, c24, f24, c25, f25⟩ := cells6 (C60.out.m.b 2 rfl)
    go_wp2_with fail
    exact C60.out.retE (x := x1) 2 rfl trivial Tryz.results35 rfl rfl (fun U b o => o 0 rfl)
def XO (L : List Lex.Tok) (k : Nat) (b : Bool) (x : Tr.E) (k' : Nat) (b' : Bool) : Prop :=
 (b = false → ∀ t, L[k]? = some t → t.kind = 2 → x = Pa.var ⟨t.text.toArray⟩ ∧ k' = k + 1 ∧ b' = false) ∧ (x.kind = 3 → 1 ≤ k' ∧ (b' = false → ∀ t', L[k' - 1]? = some t' → t'.kind = 2 → b = false ∧ k' = k + 1))
def RO (L : List Lex.Tok) (n tbk tc P m : Nat) : Prop := ∀ k b w, RS L n tbk tc P k b w → n - k ≤ m → Calls Tryz.prog 76 #[.pointer (some ⟨P, 0, none⟩)] w (RX L n tbk tc P k b (fun f ts => Pa.pO f ts) (hdn rdE w) (XO L k b) w)
set_option maxRecDepth 100000 in
set_option maxHeartbeats 8000000 in
theorem expr7_of {L : List Lex.Tok} {n tbk tc P m : Nat} (hL : Pa.TkL L n) (hO : RO L n tbk tc P m) : RE L n tbk tc P 7 7 m := by
 intro k b w hp hk
 cases b with
 | true => exact expr_bad hL hp _ _
 | false =>
   have HO := Lib.hid hO
   have hf1 := field1
   have hnm := hL.few
   clear hO
   obtain ⟨w67, HW, C67⟩ := ((Cr.start hL hp (fun f ts => Pa.pE f 7 ts)).spec Pa.pE_7).boxR #[.int .i64 0, .int .i64 0, .int .i64 0, .string ⟨#[]⟩, .bool false, .slice none 0 0] 33
   clear hL hp
   go_enter Tryz.func35, Tryz.ntmps35
   go_upto_region 1 with fail
   rw [← HW.out]
   clear HW
   have p2 := cell_of_blkP C67.out.ps.blk (j := 2) (u := .bool false) rfl
   go_wp2_with fail
   refine (C67.out.callE ((HO.out _ _ _ C67.out.ps hk))).mono ?_
   rintro e w68 ⟨x1, p1, N1, c1, k1, b1, rfl, hlt1, hn1, -, C68⟩
   clear C67
   obtain ⟨A, w69, HX, HW, hx69, C69⟩ := C68.out.boxE #[.int .i64 x1.kind, .int .i64 x1.op, .int .i64 x1.int, .string x1.name, .bool x1.at_, .slice p1 N1 c1] 33
   go_wp2_with fail
   rw [← HX.out, ← HW.out]
   clear HX HW C68
   go_loopg [87] (n - k1) (fun gg s87 wr => ∃ (k' : Nat) (b' : Bool) (x : Tr.E) (p : Option Addr) (N c B : Nat), gg = n - k' ∧ k ≤ k' ∧ k' ≤ n ∧ Hid (Cr L n tbk tc P k w (fun f => Pa.mv false (fun f ts => Pa.pE f 7 ts) (Pa.rest L n k) f) k' b' [(A, #[.int .i64 x.kind, .int .i64 x.op, .int .i64 x.int, .string x.name, .bool x.at_, .slice p N c], 33), (w.heap.size, #[.int .i64 0, .int .i64 0, .int .i64 0, .string ⟨#[]⟩, .bool false, .slice none 0 0], 33)] [im B (fun U => ReadET U (x, .slice p N c))] (fun f ts => Pa.pF f x ts) wr))
   case atStart => exact ⟨k1, b1, x1, p1, N1, c1, _, rfl, hlt1, hn1, C69⟩
   case round =>
    clear C69 hlt1 hn1 hx69
    obtain ⟨k', b', x, p, N, c, B, rfl, hltk, hnk, CR⟩ := hrel
    have C70 := Lib.hid (CR.out.spec (pFo x))
    clear CR
    go_wp2_with fail
    refine (C70.out.take ⟨#[46]⟩ (by decide)).mono ?_
    rintro e w71 (⟨rfl, hlt72, -, C71⟩ | ⟨rfl, C71⟩)
    ·clear C70
     go_upto_region 33 with fail
     obtain ⟨w73, HW, C73⟩ := C71.out.drewE
     refine wp_region_held_drew (S := fun _ => True) (by kernel_rfl) trivial (fun _ => ?_)
     rw [← HW.out]
     clear HW C71
     refine rT 0 (some 89) ?_
     try simp only [Act.put, q0, q1, q2]
     refine rR2 1 (some 90) 3 (some 92) (fun K hK => ?_) (fun K hK => ?_)
     ·go_simp
      refine (C73.out.word 2 (by decide)).mono ?_
      rintro e w74 ⟨s1, z1, z2, z3, k1, b1, rfl, hsz1, hle1, hn1, C74⟩
      clear C73
      go_wp2_with fail
      refine hK.out _ _ trivial (fun _ => ?_)
      clear hK K
      try simp only [Act.put, q0, q1, q2]
      refine rT 2 (some 91) ?_
      try simp only [Act.put, q0, q1, q2]
      refine rR1 3 (some 92) (fun K hK => ?_)
      obtain ⟨l0, c00, f00, c01, f01, c02, f02, c03, f03, c04, f04, c05, f05⟩ := cells6 (C74.out.m.b 0 rfl)
      go_simp
      refine hK.out _ _ trivial (fun _ => ?_)
      clear hK K
      try simp only [Act.put, q0, q1, q2]
      clear l0 c00 f00 c01 f01 c02 f02 c03 f03 c04 f04 c05 f05
      refine rR1 4 (some 93) (fun K hK => ?_)
      obtain ⟨X75, w75, HX, HW, hx75, C75⟩ := C74.out.boxE #[.int .i64 x.kind, .int .i64 x.op, .int .i64 x.int, .string x.name, .bool x.at_, .slice p N c] 33
      go_simp
      refine hK.out _ _ trivial (fun _ => ?_)
      clear hK K
      try simp only [Act.put, q0, q1, q2]
      rw [← HX.out, ← HW.out]
      clear HX HW C74
      refine rT 5 (some 94) ?_
      try simp only [Act.put, q0, q1, q2]
      refine rR1 6 none (fun K hK => ?_)
      obtain ⟨l1, c10, f10, c11, f11, c12, f12, c13, f13, c14, f14, c15, f15⟩ := cells6 (C75.out.m.b 1 rfl)
      go_simp
      refine hK.out _ _ trivial (fun _ => ?_)
      clear hK K
      try simp only [Act.put, q0, q1, q2]
      refine wpAnyH_done (by kernel_rfl) ?_ _
      clear l1 c10 f10 c11 f11 c12 f12 c13 f13 c14 f14 c15 f15
      have C76 := Lib.hid ((C75.out.mm (C75.out.m.set 1 rfl (set6_gr _ _ _ _ _ _ _ _ ) (set6_blk (.int .i64 4) (.int .i64 0) (.int .i64 0) (.string s1) (.bool false) (.slice (some ⟨X75, 0, none⟩) 1 1) (C75.out.m.b 1 rfl)))))
      have D76 := Lib.hid (C76.out.mm (C76.out.m.fold (rd := fun U => ReadET U (Pa.fld s1 x, .slice (some ⟨X75, 0, none⟩) 1 1)) (mn_E _) (fun U b o => ⟨bd_fld hsz1 x, slE_blk1 b (o 0 rfl).1 (o 0 rfl).2⟩)))
      go_wp2_with fail
      clear C75 C76
      go_roundg (n - k1)
      case measure => omega
      case rel => exact ⟨k1, b1, Pa.fld s1 x, _, _, _, _, rfl, by omega, by omega, D76⟩
     ·obtain ⟨l0, c00, f00, c01, f01, c02, f02, c03, f03, c04, f04, c05, f05⟩ := cells6 (C73.out.m.b 0 rfl)
      go_simp
      refine hK.out _ _ trivial (fun _ => ?_)
      clear hK K
      try simp only [Act.put, q0, q1, q2]
      clear l0 c00 f00 c01 f01 c02 f02 c03 f03 c04 f04 c05 f05
      refine rR2 1 (some 90) 4 (some 93) (fun K hK => ?_) (fun K hK => ?_)
      ·go_simp
       refine (C73.out.word 2 (by decide)).mono ?_
       rintro e w77 ⟨s1, z1, z2, z3, k1, b1, rfl, hsz1, hle1, hn1, C77⟩
       clear C73
       go_wp2_with fail
       refine hK.out _ _ trivial (fun _ => ?_)
       clear hK K
       try simp only [Act.put, q0, q1, q2]
       refine rT 2 (some 91) ?_
       try simp only [Act.put, q0, q1, q2]
       refine rR1 4 (some 93) (fun K hK => ?_)
       obtain ⟨X78, w78, HX, HW, hx78, C78⟩ := C77.out.boxE #[.int .i64 x.kind, .int .i64 x.op, .int .i64 x.int, .string x.name, .bool x.at_, .slice p N c] 33
       go_simp
       refine hK.out _ _ trivial (fun _ => ?_)
       clear hK K
       try simp only [Act.put, q0, q1, q2]
       rw [← HX.out, ← HW.out]
       clear HX HW C77
       refine rT 5 (some 94) ?_
       try simp only [Act.put, q0, q1, q2]
       refine rR1 6 none (fun K hK => ?_)
       obtain ⟨l1, c10, f10, c11, f11, c12, f12, c13, f13, c14, f14, c15, f15⟩ := cells6 (C78.out.m.b 1 rfl)
       go_simp
       refine hK.out _ _ trivial (fun _ => ?_)
       clear hK K
       try simp only [Act.put, q0, q1, q2]
       refine wpAnyH_done (by kernel_rfl) ?_ _
       clear l1 c10 f10 c11 f11 c12 f12 c13 f13 c14 f14 c15 f15
       have C79 := Lib.hid ((C78.out.mm (C78.out.m.set 1 rfl (set6_gr _ _ _ _ _ _ _ _ ) (set6_blk (.int .i64 4) (.int .i64 0) (.int .i64 0) (.string s1) (.bool false) (.slice (some ⟨X78, 0, none⟩) 1 1) (C78.out.m.b 1 rfl)))))
       have D79 := Lib.hid (C79.out.mm (C79.out.m.fold (rd := fun U => ReadET U (Pa.fld s1 x, .slice (some ⟨X78, 0, none⟩) 1 1)) (mn_E _) (fun U b o => ⟨bd_fld hsz1 x, slE_blk1 b (o 0 rfl).1 (o 0 rfl).2⟩)))
       go_wp2_with fail
       clear C78 C79
       go_roundg (n - k1)
       case measure => omega
       case rel => exact ⟨k1, b1, Pa.fld s1 x, _, _, _, _, rfl, by omega, by omega, D79⟩
      ·obtain ⟨X80, w80, HX, HW, hx80, C80⟩ := C73.out.boxE #[.int .i64 x.kind, .int .i64 x.op, .int .i64 x.int, .string x.name, .bool x.at_, .slice p N c] 33
       go_simp
       refine hK.out _ _ trivial (fun _ => ?_)
       clear hK K
       try simp only [Act.put, q0, q1, q2]
       rw [← HX.out, ← HW.out]
       clear HX HW C73
       refine rR1 1 (some 90) (fun K hK => ?_)
       go_simp
       refine (C80.out.word 2 (by decide)).mono ?_
       rintro e w81 ⟨s1, z1, z2, z3, k1, b1, rfl, hsz1, hle1, hn1, C81⟩
       clear C80
       go_wp2_with fail
       refine hK.out _ _ trivial (fun _ => ?_)
       clear hK K
       try simp only [Act.put, q0, q1, q2]
       refine rT 2 (some 91) ?_
       try simp only [Act.put, q0, q1, q2]
       refine rT 5 (some 94) ?_
       try simp only [Act.put, q0, q1, q2]
       refine rR1 6 none (fun K hK => ?_)
       obtain ⟨l1, c10, f10, c11, f11, c12, f12, c13, f13, c14, f14, c15, f15⟩ := cells6 (C81.out.m.b 1 rfl)
       go_simp
       refine hK.out _ _ trivial (fun _ => ?_)
       clear hK K
       try simp only [Act.put, q0, q1, q2]
       refine wpAnyH_done (by kernel_rfl) ?_ _
       clear l1 c10 f10 c11 f11 c12 f12 c13 f13 c14 f14 c15 f15
       have C82 := Lib.hid ((C81.out.mm (C81.out.m.set 1 rfl (set6_gr _ _ _ _ _ _ _ _ ) (set6_blk (.int .i64 4) (.int .i64 0) (.int .i64 0) (.string s1) (.bool false) (.slice (some ⟨X80, 0, none⟩) 1 1) (C81.out.m.b 1 rfl)))))
       have D82 := Lib.hid (C82.out.mm (C82.out.m.fold (rd := fun U => ReadET U (Pa.fld s1 x, .slice (some ⟨X80, 0, none⟩) 1 1)) (mn_E _) (fun U b o => ⟨bd_fld hsz1 x, slE_blk1 b (o 0 rfl).1 (o 0 rfl).2⟩)))
       go_wp2_with fail
       clear C81 C82
       go_roundg (n - k1)
       case measure => omega
       case rel => exact ⟨k1, b1, Pa.fld s1 x, _, _, _, _, rfl, by omega, by omega, D82⟩
    ·clear C70
     obtain ⟨l0, c00, f00, c01, f01, c02, f02, c03, f03, c04, f04, c05, f05⟩ := cells6 (C71.out.m.b 0 rfl)
     obtain ⟨l1, c10, f10, c11, f11, c12, f12, c13, f13, c14, f14, c15, f15⟩ := cells6 (C71.out.m.b 1 rfl)
     go_wp2_with fail
     exact C71.out.retE (x := x) 1 rfl trivial Tryz.results35 rfl rfl (fun U b o => o 0 rfl)
end Go.Proofs.YtdckddkalgnlpaaGreatDoor
