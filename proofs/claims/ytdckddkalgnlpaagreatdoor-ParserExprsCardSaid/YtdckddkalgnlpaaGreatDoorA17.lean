/-
  Several texts in one: PbExpr, PbPost.
-/
import Derived.Test.YtdckddkalgnlpaaGreatDoorA11
import Derived.Test.YtdckddkalgnlpaaGreatDoorA16
namespace Go.Proofs.YtdckddkalgnlpaaGreatDoor
open Go.RowKit Go.Maps Pw
theorem pE2o (f : Nat) (ts : Pa.Toks) : Pa.pE (f + 1) 2 ts = Pa.opt [110, 111, 116] (fun r => (Pa.pE f 2 r).bind fun a r => .ok (Pa.un 9 a) r) (fun r => (Pa.pE f 3 r).bind fun a r => .ok a r) ts := (Pa.pE_2 f ts).trans (by unfold Pa.opt; simp only [← Pa.R.eta])
theorem pE6o (f : Nat) (ts : Pa.Toks) : Pa.pE (f + 1) 6 ts = Pa.opt [45] (fun r => (Pa.pE f 6 r).bind fun a r => .ok (Pa.un 8 a) r) (Pa.opt [119, 101, 97, 107] (fun r => (Pa.pE f 6 r).bind fun a r => .ok (Pa.un 6 a) r) (Pa.opt [103, 101, 116] (fun r => (Pa.pE f 6 r).bind fun a r => .ok (Pa.un 7 a) r) fun r => (Pa.pE f 7 r).bind fun a r => .ok a r)) ts := (Pa.pE_6 f ts).trans (by unfold Pa.opt; simp only [← Pa.R.eta])
def EL (L : List Lex.Tok) (n tbk tc P F lv m : Nat) : Prop := ∀ k w, PS L n tbk tc P k w → n - k < m → Calls Tryz.prog F #[.pointer (some ⟨P, 0, none⟩)] w (PQ L n tbk tc P k (fun f ts => Pa.pE f lv ts) rdE w)
set_option maxRecDepth 100000 in
set_option maxHeartbeats 8000000 in
theorem not_of {L : List Lex.Tok} {n tbk tc P m : Nat} (hL : Pa.TkL L n) (hC : EC L n tbk tc P 158 3 m) (hN : EL L n tbk tc P 123 2 m) : EC L n tbk tc P 123 2 m := by
 intro k w hp hk
 have HC := Lib.hid hC
 have HN := Lib.hid hN
 clear hC hN
 obtain ⟨w1, HW, C1⟩ := ((Cx.start hL hp (fun f ts => Pa.pE f 2 ts)).spec pE2o).boxR #[.int .i64 0, .int .i64 0, .int .i64 0, .string ⟨#[]⟩, .bool false, .slice none 0 0] 33
 clear hL hp
 go_enter Tryz.func123, Tryz.ntmps123
 go_upto_region 1 with fail
 rw [← HW.out]
 clear HW
 go_wp2_with fail
 refine (C1.out.take ⟨#[110, 111, 116]⟩ (by decide)).mono ?_
 rintro e w2 (⟨rfl, hlt3, C2⟩ | ⟨rfl, C2⟩)
 ·clear C1
  go_wp2_with fail
  refine (C2.out.callE (HN.out _ _ C2.out.ps (by omega))).mono ?_
  rintro e w4 (⟨x1, p1, N1, c1, k1, rfl, hlt1, hn1, C4⟩ | ⟨t, rfl, HB⟩)
  ·clear C2
   obtain ⟨l0, c00, f00, c01, f01, c02, f02, c03, f03, c04, f04, c05, f05⟩ := cells6 (C4.out.m.b 0 rfl)
   go_wp2_with fail
   exact C4.out.retEb (x := Pa.un 9 x1) 0 rfl (by omega) Tryz.results123 rfl rfl (fun U g b o => ⟨bd_un (by decide) (by decide) _, slE_blk1 g (o 0 rfl).1 (o 0 rfl).2⟩)
  ·go_wp2_with fail
   exact ⟨rfl, HB.out.pq⟩
 ·clear C1
  go_wp2_with fail
  refine (C2.out.callE (HC.out _ _ C2.out.ps hk)).mono ?_
  rintro e w5 (⟨x1, p1, N1, c1, k1, rfl, hlt1, hn1, C5⟩ | ⟨t, rfl, HB⟩)
  ·clear C2
   obtain ⟨l0, c00, f00, c01, f01, c02, f02, c03, f03, c04, f04, c05, f05⟩ := cells6 (C5.out.m.b 0 rfl)
   go_wp2_with fail
   exact C5.out.retE (x := x1) 0 rfl (by omega) Tryz.results123 rfl rfl (fun U b o => o 0 rfl)
  ·go_wp2_with fail
   exact ⟨rfl, HB.out.pq⟩
set_option maxRecDepth 100000 in
set_option maxHeartbeats 8000000 in
theorem unary_of {L : List Lex.Tok} {n tbk tc P m : Nat} (hL : Pa.TkL L n) (hF : EC L n tbk tc P 223 7 m) (hU : EL L n tbk tc P 218 6 m) : EC L n tbk tc P 218 6 m := by
 intro k w hp hk
 have HF := Lib.hid hF
 have HU := Lib.hid hU
 clear hF hU
 obtain ⟨w6, HW, C6⟩ := ((Cx.start hL hp (fun f ts => Pa.pE f 6 ts)).spec pE6o).boxR #[.int .i64 0, .int .i64 0, .int .i64 0, .string ⟨#[]⟩, .bool false, .slice none 0 0] 33
 clear hL hp
 go_enter Tryz.func218, Tryz.ntmps218
 go_upto_region 3 with fail
 rw [← HW.out]
 clear HW
 go_wp2_with fail
 refine (C6.out.take ⟨#[45]⟩ (by decide)).mono ?_
 rintro e w7 (⟨rfl, hlt8, C7⟩ | ⟨rfl, C7⟩)
 ·clear C6
  go_wp2_with fail
  refine (C7.out.callE (HU.out _ _ C7.out.ps (by omega))).mono ?_
  rintro e w9 (⟨x1, p1, N1, c1, k1, rfl, hlt1, hn1, C9⟩ | ⟨t, rfl, HB⟩)
  ·clear C7
   obtain ⟨l0, c00, f00, c01, f01, c02, f02, c03, f03, c04, f04, c05, f05⟩ := cells6 (C9.out.m.b 0 rfl)
   go_wp2_with fail
   exact C9.out.retEb (x := Pa.un 8 x1) 0 rfl (by omega) Tryz.results218 rfl rfl (fun U g b o => ⟨bd_un (by decide) (by decide) _, slE_blk1 g (o 0 rfl).1 (o 0 rfl).2⟩)
  ·go_wp2_with fail
   exact ⟨rfl, HB.out.pq⟩
 ·clear C6
  go_wp2_with fail
  refine (C7.out.take ⟨#[119, 101, 97, 107]⟩ (by decide)).mono ?_
  rintro e w10 (⟨rfl, hlt11, C10⟩ | ⟨rfl, C10⟩)
  ·clear C7
   go_wp2_with fail
   refine (C10.out.callE (HU.out _ _ C10.out.ps (by omega))).mono ?_
   rintro e w12 (⟨x1, p1, N1, c1, k1, rfl, hlt1, hn1, C12⟩ | ⟨t, rfl, HB⟩)
   ·clear C10
    obtain ⟨l0, c00, f00, c01, f01, c02, f02, c03, f03, c04, f04, c05, f05⟩ := cells6 (C12.out.m.b 0 rfl)
    go_wp2_with fail
    exact C12.out.retEb (x := Pa.un 6 x1) 0 rfl (by omega) Tryz.results218 rfl rfl (fun U g b o => ⟨bd_un (by decide) (by decide) _, slE_blk1 g (o 0 rfl).1 (o 0 rfl).2⟩)
   ·go_wp2_with fail
    exact ⟨rfl, HB.out.pq⟩
  ·clear C7
   go_wp2_with fail
   refine (C10.out.take ⟨#[103, 101, 116]⟩ (by decide)).mono ?_
   rintro e w13 (⟨rfl, hlt14, C13⟩ | ⟨rfl, C13⟩)
   ·clear C10
    go_wp2_with fail
    refine (C13.out.callE (HU.out _ _ C13.out.ps (by omega))).mono ?_
    rintro e w15 (⟨x1, p1, N1, c1, k1, rfl, hlt1, hn1, C15⟩ | ⟨t, rfl, HB⟩)
    ·clear C13
     obtain ⟨l0, c00, f00, c01, f01, c02, f02, c03, f03, c04, f04, c05, f05⟩ := cells6 (C15.out.m.b 0 rfl)
     go_wp2_with fail
     exact C15.out.retEb (x := Pa.un 7 x1) 0 rfl (by omega) Tryz.results218 rfl rfl (fun U g b o => ⟨bd_un (by decide) (by decide) _, slE_blk1 g (o 0 rfl).1 (o 0 rfl).2⟩)
    ·go_wp2_with fail
     exact ⟨rfl, HB.out.pq⟩
   ·clear C10
    go_wp2_with fail
    refine (C13.out.callE (HF.out _ _ C13.out.ps hk)).mono ?_
    rintro e w16 (⟨x1, p1, N1, c1, k1, rfl, hlt1, hn1, C16⟩ | ⟨t, rfl, HB⟩)
    ·clear C13
     obtain ⟨l0, c00, f00, c01, f01, c02, f02, c03, f03, c04, f04, c05, f05⟩ := cells6 (C16.out.m.b 0 rfl)
     go_wp2_with fail
     exact C16.out.retE (x := x1) 0 rfl (by omega) Tryz.results218 rfl rfl (fun U b o => o 0 rfl)
    ·go_wp2_with fail
     exact ⟨rfl, HB.out.pq⟩
end Go.Proofs.YtdckddkalgnlpaaGreatDoor
namespace Go.Proofs.YtdckddkalgnlpaaGreatDoor
open Go.RowKit Go.Maps Pw
def OC (L : List Lex.Tok) (n tbk tc P m : Nat) : Prop := ∀ k w, PS L n tbk tc P k w → n - k ≤ m → Calls Tryz.prog 198 #[.pointer (some ⟨P, 0, none⟩)] w (PQ L n tbk tc P k (fun f ts => Pa.pO f ts) rdE w)
theorem pFo (a : Tr.E) (f : Nat) (ts : Pa.Toks) : Pa.pF (f + 1) a ts = Pa.opt [46] (fun r => (Pa.word 2 r).bind fun n r => Pa.pF f (Pa.fld n a) r) (fun r => .ok a r) ts := Pa.pF_s f a ts
set_option maxRecDepth 100000 in
set_option maxHeartbeats 8000000 in
theorem postfix_of {L : List Lex.Tok} {n tbk tc P m : Nat} (hL : Pa.TkL L n) (hO : OC L n tbk tc P m) : EC L n tbk tc P 223 7 m := by
 intro k w hp hk
 have hnm := hL.few
 have HO := Lib.hid hO
 clear hO
 obtain ⟨w1, HW, C1⟩ := ((Cx.start hL hp (fun f ts => Pa.pE f 7 ts)).spec Pa.pE_7).boxR #[.int .i64 0, .int .i64 0, .int .i64 0, .string ⟨#[]⟩, .bool false, .slice none 0 0] 33
 clear hL hp
 go_enter Tryz.func223, Tryz.ntmps223
 go_upto_region 1 with fail
 rw [← HW.out]
 clear HW
 go_wp2_with fail
 refine (C1.out.callE (HO.out _ _ C1.out.ps hk)).mono ?_
 rintro e w2 (⟨x1, p1, N1, c1, k1, rfl, hlt1, hn1, C2⟩ | ⟨t, rfl, HB⟩)
 ·clear C1
  obtain ⟨X, w3, HX, HW, hx3, C3⟩ := C2.out.boxE #[.int .i64 x1.kind, .int .i64 x1.op, .int .i64 x1.int, .string x1.name, .bool x1.at_, .slice p1 N1 c1] 33
  go_wp2_with fail
  rw [← HX.out, ← HW.out]
  clear HX HW C2
  go_loopg [6] (n - k1) (fun gg s6 wr => ∃ k', gg = n - k' ∧ k < k' ∧ k' ≤ n ∧ ∃ (x : Tr.E) (p : Option Addr) (N c B : Nat), Hid (Cx L n tbk tc P k w (fun f => Pa.pE f 7 (Pa.rest L n k)) k' [(X, #[.int .i64 x.kind, .int .i64 x.op, .int .i64 x.int, .string x.name, .bool x.at_, .slice p N c], 33), (w.heap.size, #[.int .i64 0, .int .i64 0, .int .i64 0, .string ⟨#[]⟩, .bool false, .slice none 0 0], 33)] [im B (fun U => ReadET U (x, .slice p N c))] (fun f ts => Pa.pF f x ts) wr))
  case atStart => exact ⟨k1, rfl, hlt1, hn1, x1, p1, N1, c1, _, C3⟩
  case round =>
   clear C3 hlt1 hn1 hx3
   obtain ⟨k', rfl, hltk, hnk, x, p, N, c, B, CR⟩ := hrel
   have C4 := Lib.hid (CR.out.spec (pFo x))
   clear CR
   go_wp2_with fail
   refine (C4.out.take ⟨#[46]⟩ (by decide)).mono ?_
   rintro e w5 (⟨rfl, hlt6, C5⟩ | ⟨rfl, C5⟩)
   ·clear C4
    go_upto_region 3 with fail
    obtain ⟨w7, HW, C7⟩ := C5.out.drewE
    refine wp_region_held_drew (S := fun _ => True) (by kernel_rfl) trivial (fun _ => ?_)
    rw [← HW.out]
    clear HW C5
    refine rT 0 (some 8) ?_
    try simp only [Act.put, q0, q1, q2]
    refine rR2 1 (some 9) 2 (some 10) (fun K hK => ?_) (fun K hK => ?_)
    ·go_simp
     refine (C7.out.name).mono ?_
     rintro e w8 (⟨s1, rfl, hlt1, hsz1, C8⟩ | ⟨t, rfl, HB⟩)
     ·clear C7
      go_wp2_with fail
      refine hK.out _ _ trivial (fun _ => ?_)
      clear hK K
      try simp only [Act.put, q0, q1, q2]
      refine rR1 2 (some 10) (fun K hK => ?_)
      obtain ⟨l0, c00, f00, c01, f01, c02, f02, c03, f03, c04, f04, c05, f05⟩ := cells6 (C8.out.m.b 0 rfl)
      go_simp
      refine hK.out _ _ trivial (fun _ => ?_)
      clear hK K
      try simp only [Act.put, q0, q1, q2]
      clear l0 c00 f00 c01 f01 c02 f02 c03 f03 c04 f04 c05 f05
      refine rR1 3 (some 11) (fun K hK => ?_)
      obtain ⟨X9, w9, HX, HW, hx9, C9⟩ := C8.out.boxE #[.int .i64 x.kind, .int .i64 x.op, .int .i64 x.int, .string x.name, .bool x.at_, .slice p N c] 33
      go_simp
      refine hK.out _ _ trivial (fun _ => ?_)
      clear hK K
      try simp only [Act.put, q0, q1, q2]
      rw [← HX.out, ← HW.out]
      clear HX HW C8
      refine rT 4 (some 12) ?_
      try simp only [Act.put, q0, q1, q2]
      refine rR1 5 none (fun K hK => ?_)
      obtain ⟨l1, c10, f10, c11, f11, c12, f12, c13, f13, c14, f14, c15, f15⟩ := cells6 (C9.out.m.b 1 rfl)
      go_simp
      refine hK.out _ _ trivial (fun _ => ?_)
      clear hK K
      try simp only [Act.put, q0, q1, q2]
      refine wpAnyH_done (by kernel_rfl) ?_ _
      clear l1 c10 f10 c11 f11 c12 f12 c13 f13 c14 f14 c15 f15
      have C10 := Lib.hid ((C9.out.mm (C9.out.m.set 1 rfl (set6_gr _ _ _ _ _ _ _ _ ) (set6_blk (.int .i64 4) (.int .i64 0) (.int .i64 0) (.string s1) (.bool false) (.slice (some ⟨X9, 0, none⟩) 1 1) (C9.out.m.b 1 rfl)))))
      have D10 := Lib.hid (C10.out.mm (C10.out.m.fold (rd := fun U => ReadET U (Pa.fld s1 x, .slice (some ⟨X9, 0, none⟩) 1 1)) (mn_E _) (fun U b o => ⟨bd_fld hsz1 x, slE_blk1 b (o 0 rfl).1 (o 0 rfl).2⟩)))
      go_wp2_with fail
      clear C9 C10
      go_roundg (n - (k' + 1 + 1))
      case measure => omega
      case rel => exact ⟨k' + 1 + 1, rfl, by omega, by omega, Pa.fld s1 x, _, _, _, _, D10⟩
     ·go_wp2_with fail
      exact ⟨rfl, HB.out.pq⟩
    ·obtain ⟨l0, c00, f00, c01, f01, c02, f02, c03, f03, c04, f04, c05, f05⟩ := cells6 (C7.out.m.b 0 rfl)
     go_simp
     refine hK.out _ _ trivial (fun _ => ?_)
     clear hK K
     try simp only [Act.put, q0, q1, q2]
     clear l0 c00 f00 c01 f01 c02 f02 c03 f03 c04 f04 c05 f05
     refine rR2 1 (some 9) 3 (some 11) (fun K hK => ?_) (fun K hK => ?_)
     ·go_simp
      refine (C7.out.name).mono ?_
      rintro e w11 (⟨s1, rfl, hlt1, hsz1, C11⟩ | ⟨t, rfl, HB⟩)
      ·clear C7
       go_wp2_with fail
       refine hK.out _ _ trivial (fun _ => ?_)
       clear hK K
       try simp only [Act.put, q0, q1, q2]
       refine rR1 3 (some 11) (fun K hK => ?_)
       obtain ⟨X12, w12, HX, HW, hx12, C12⟩ := C11.out.boxE #[.int .i64 x.kind, .int .i64 x.op, .int .i64 x.int, .string x.name, .bool x.at_, .slice p N c] 33
       go_simp
       refine hK.out _ _ trivial (fun _ => ?_)
       clear hK K
       try simp only [Act.put, q0, q1, q2]
       rw [← HX.out, ← HW.out]
       clear HX HW C11
       refine rT 4 (some 12) ?_
       try simp only [Act.put, q0, q1, q2]
       refine rR1 5 none (fun K hK => ?_)
       obtain ⟨l1, c10, f10, c11, f11, c12, f12, c13, f13, c14, f14, c15, f15⟩ := cells6 (C12.out.m.b 1 rfl)
       go_simp
       refine hK.out _ _ trivial (fun _ => ?_)
       clear hK K
       try simp only [Act.put, q0, q1, q2]
       refine wpAnyH_done (by kernel_rfl) ?_ _
       clear l1 c10 f10 c11 f11 c12 f12 c13 f13 c14 f14 c15 f15
       have C13 := Lib.hid ((C12.out.mm (C12.out.m.set 1 rfl (set6_gr _ _ _ _ _ _ _ _ ) (set6_blk (.int .i64 4) (.int .i64 0) (.int .i64 0) (.string s1) (.bool false) (.slice (some ⟨X12, 0, none⟩) 1 1) (C12.out.m.b 1 rfl)))))
       have D13 := Lib.hid (C13.out.mm (C13.out.m.fold (rd := fun U => ReadET U (Pa.fld s1 x, .slice (some ⟨X12, 0, none⟩) 1 1)) (mn_E _) (fun U b o => ⟨bd_fld hsz1 x, slE_blk1 b (o 0 rfl).1 (o 0 rfl).2⟩)))
       go_wp2_with fail
       clear C12 C13
       go_roundg (n - (k' + 1 + 1))
       case measure => omega
       case rel => exact ⟨k' + 1 + 1, rfl, by omega, by omega, Pa.fld s1 x, _, _, _, _, D13⟩
      ·go_wp2_with fail
       exact ⟨rfl, HB.out.pq⟩
     ·obtain ⟨X14, w14, HX, HW, hx14, C14⟩ := C7.out.boxE #[.int .i64 x.kind, .int .i64 x.op, .int .i64 x.int, .string x.name, .bool x.at_, .slice p N c] 33
      go_simp
      refine hK.out _ _ trivial (fun _ => ?_)
      clear hK K
      try simp only [Act.put, q0, q1, q2]
      rw [← HX.out, ← HW.out]
      clear HX HW C7
      refine rR1 1 (some 9) (fun K hK => ?_)
      go_simp
      refine (C14.out.name).mono ?_
      rintro e w15 (⟨s1, rfl, hlt1, hsz1, C15⟩ | ⟨t, rfl, HB⟩)
      ·clear C14
       go_wp2_with fail
       refine hK.out _ _ trivial (fun _ => ?_)
       clear hK K
       try simp only [Act.put, q0, q1, q2]
       refine rT 4 (some 12) ?_
       try simp only [Act.put, q0, q1, q2]
       refine rR1 5 none (fun K hK => ?_)
       obtain ⟨l1, c10, f10, c11, f11, c12, f12, c13, f13, c14, f14, c15, f15⟩ := cells6 (C15.out.m.b 1 rfl)
       go_simp
       refine hK.out _ _ trivial (fun _ => ?_)
       clear hK K
       try simp only [Act.put, q0, q1, q2]
       refine wpAnyH_done (by kernel_rfl) ?_ _
       clear l1 c10 f10 c11 f11 c12 f12 c13 f13 c14 f14 c15 f15
       have C16 := Lib.hid ((C15.out.mm (C15.out.m.set 1 rfl (set6_gr _ _ _ _ _ _ _ _ ) (set6_blk (.int .i64 4) (.int .i64 0) (.int .i64 0) (.string s1) (.bool false) (.slice (some ⟨X14, 0, none⟩) 1 1) (C15.out.m.b 1 rfl)))))
       have D16 := Lib.hid (C16.out.mm (C16.out.m.fold (rd := fun U => ReadET U (Pa.fld s1 x, .slice (some ⟨X14, 0, none⟩) 1 1)) (mn_E _) (fun U b o => ⟨bd_fld hsz1 x, slE_blk1 b (o 0 rfl).1 (o 0 rfl).2⟩)))
       go_wp2_with fail
       clear C15 C16
       go_roundg (n - (k' + 1 + 1))
       case measure => omega
       case rel => exact ⟨k' + 1 + 1, rfl, by omega, by omega, Pa.fld s1 x, _, _, _, _, D16⟩
      ·go_wp2_with fail
       exact ⟨rfl, HB.out.pq⟩
   ·clear C4
    obtain ⟨l0, c00, f00, c01, f01, c02, f02, c03, f03, c04, f04, c05, f05⟩ := cells6 (C5.out.m.b 0 rfl)
    obtain ⟨l1, c10, f10, c11, f11, c12, f12, c13, f13, c14, f14, c15, f15⟩ := cells6 (C5.out.m.b 1 rfl)
    go_wp2_with fail
    exact C5.out.retE (x := x) 1 rfl (by omega) Tryz.results223 rfl rfl (fun U b o => o 0 rfl)
 ·go_wp2_with fail
  exact ⟨rfl, HB.out.pq⟩
end Go.Proofs.YtdckddkalgnlpaaGreatDoor
