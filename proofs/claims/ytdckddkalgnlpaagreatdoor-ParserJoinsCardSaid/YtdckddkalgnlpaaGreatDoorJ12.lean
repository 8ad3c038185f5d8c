/-
  Several texts in one: PbExpr, PbPost, PbOper.
-/
import Derived.Test.YtdckddkalgnlpaaGreatDoorJ10
import Derived.Test.YtdckddkalgnlpaaGreatDoorJ11
namespace Go.Proofs.YtdckddkalgnlpaaGreatDoor
open Go.RowKit Go.Maps Pw
theorem pE2o (f : Nat) (ts : Pa.Toks) : Pa.pE (f + 1) 2 ts = Pa.opt [110, 111, 116] (fun r => (Pa.pE f 2 r).bind fun a r => .ok (Pa.un 9 a) r) (fun r => (Pa.pE f 3 r).bind fun a r => .ok a r) ts := (Pa.pE_2 f ts).trans (by unfold Pa.opt; simp only [← Pa.R.eta])
theorem pE6o (f : Nat) (ts : Pa.Toks) : Pa.pE (f + 1) 6 ts = Pa.opt [45] (fun r => (Pa.pE f 6 r).bind fun a r => .ok (Pa.un 8 a) r) (Pa.opt [119, 101, 97, 107] (fun r => (Pa.pE f 6 r).bind fun a r => .ok (Pa.un 6 a) r) (Pa.opt [103, 101, 116] (fun r => (Pa.pE f 6 r).bind fun a r => .ok (Pa.un 7 a) r) fun r => (Pa.pE f 7 r).bind fun a r => .ok a r)) ts := (Pa.pE_6 f ts).trans (by unfold Pa.opt; simp only [← Pa.R.eta])
/-- the contract where fewer than m tokens are left -/
def EL (L : List Lex.Tok) (n tbk tc P F lv m : Nat) : Prop := ∀ k w, PS L n tbk tc P k w → n - k < m → Calls Tryz.prog F #[.pointer (some ⟨P, 0, none⟩)] w (PQ L n tbk tc P k (fun f ts => Pa.pE f lv ts) rdE w)
set_option maxRecDepth 100000 in
set_option maxHeartbeats 8000000 in
theorem not_of {L : List Lex.Tok} {n tbk tc P m : Nat} (hL : Pa.TkL L n) (hC : EC L n tbk tc P 158 3 m) (hN : EL L n tbk tc P 123 2 m) : EC L n tbk tc P 123 2 m := by
  intro k w hp hk
  have HC := Lib.hid hC
  have HN := Lib.hid hN
  clear hC hN
  obtain ⟨w1, HW, C1⟩ := ((Cx.start hL hp (fun f ts => Pa.pE f 2 ts)).spec pE2o).boxR #[.int .i64 0, .int .i64 0, .int .i64 0, .string ⟨#[]⟩, .bool false, .slice none 0 0] 33
  clear hL hp
  go_enter Tryz.func123, Tryz.ntmps123
  go_upto_region 1 with fail
  rw [← HW.out]
  clear HW
  go_wp2_with fail
  refine (C1.out.take ⟨#[110, 111, 116]⟩ (by decide)).mono ?_
  rintro e w2 (⟨rfl, hlt3, C2⟩ | ⟨rfl, C2⟩)
  · clear C1
    go_wp2_with fail
    refine (C2.out.callE (HN.out _ _ C2.out.ps (by omega))).mono ?_
    rintro e w4 (⟨x1, p1, N1, c1, k1, rfl, hlt1, hn1, C4⟩ | ⟨t, rfl, HB⟩)
    · clear C2
      obtain ⟨l0, c00, f00, c01, f01, c02, f02, c03, f03, c04, f04, c05, f05⟩ := cells6 (C4.out.m.b 0 rfl)
      go_wp2_with fail
      exact C4.out.retEb (x := Pa.un 9 x1) 0 rfl (by omega) Tryz.results123 rfl rfl (fun U g b o => ⟨bd_un (by decide) (by decide) _, slE_blk1 g (o 0 rfl).1 (o 0 rfl).2⟩)
    · go_wp2_with fail
      exact ⟨rfl, HB.out.pq⟩
  · clear C1
    go_wp2_with fail
    refine (C2.out.callE (HC.out _ _ C2.out.ps hk)).mono ?_
    rintro e w5 (⟨x1, p1, N1, c1, k1, rfl, hlt1, hn1, C5⟩ | ⟨t, rfl, HB⟩)
    · clear C2
      obtain ⟨l0, c00, f00, c01, f01, c02, f02, c03, f03, c04, f04, c05, f05⟩ := cells6 (C5.out.m.b 0 rfl)
      go_wp2_with fail
      exact C5.out.retE (x := x1) 0 rfl (by omega) Tryz.results123 rfl rfl (fun U b o => o 0 rfl)
    · go_wp2_with fail
      exact ⟨rfl, HB.out.pq⟩
set_option maxRecDepth 100000 in
set_option maxHeartbeats 8000000 in
theorem unary_of {L : List Lex.Tok} {n tbk tc P m : Nat} (hL : Pa.TkL L n) (hF : EC L n tbk tc P 223 7 m) (hU : EL L n tbk tc P 218 6 m) : EC L n tbk tc P 218 6 m := by
  intro k w hp hk
  have HF := Lib.hid hF
  have HU := Lib.hid hU
  clear hF hU
  obtain ⟨w6, HW, C6⟩ := ((Cx.start hL hp (fun f ts => Pa.pE f 6 ts)).spec pE6o).boxR #[.int .i64 0, .int .i64 0, .int .i64 0, .string ⟨#[]⟩, .bool false, .slice none 0 0] 33
  clear hL hp
  go_enter Tryz.func218, Tryz.ntmps218
  go_upto_region 3 with fail
  rw [← HW.out]
  clear HW
  go_wp2_with fail
  refine (C6.out.take ⟨#[45]⟩ (by decide)).mono ?_
  rintro e w7 (⟨rfl, hlt8, C7⟩ | ⟨rfl, C7⟩)
  · clear C6
    go_wp2_with fail
    refine (C7.out.callE (HU.out _ _ C7.out.ps (by omega))).mono ?_
    rintro e w9 (⟨x1, p1, N1, c1, k1, rfl, hlt1, hn1, C9⟩ | ⟨t, rfl, HB⟩)
    · clear C7
      obtain ⟨l0, c00, f00, c01, f01, c02, f02, c03, f03, c04, f04, c05, f05⟩ := cells6 (C9.out.m.b 0 rfl)
      go_wp2_with fail
      exact C9.out.retEb (x := Pa.un 8 x1) 0 rfl (by omega) Tryz.results218 rfl rfl (fun U g b o => ⟨bd_un (by decide) (by decide) _, slE_blk1 g (o 0 rfl).1 (o 0 rfl).2⟩)
    · go_wp2_with fail
      exact ⟨rfl, HB.out.pq⟩
  · clear C6
    go_wp2_with fail
    refine (C7.out.take ⟨#[119, 101, 97, 107]⟩ (by decide)).mono ?_
    rintro e w10 (⟨rfl, hlt11, C10⟩ | ⟨rfl, C10⟩)
    · clear C7
      go_wp2_with fail
      refine (C10.out.callE (HU.out _ _ C10.out.ps (by omega))).mono ?_
      rintro e w12 (⟨x1, p1, N1, c1, k1, rfl, hlt1, hn1, C12⟩ | ⟨t, rfl, HB⟩)
      · clear C10
        obtain ⟨l0, c00, f00, c01, f01, c02, f02, c03, f03, c04, f04, c05, f05⟩ := cells6 (C12.out.m.b 0 rfl)
        go_wp2_with fail
        exact C12.out.retEb (x := Pa.un 6 x1) 0 rfl (by omega) Tryz.results218 rfl rfl (fun U g b o => ⟨bd_un (by decide) (by decide) _, slE_blk1 g (o 0 rfl).1 (o 0 rfl).2⟩)
      · go_wp2_with fail
        exact ⟨rfl, HB.out.pq⟩
    · clear C7
      go_wp2_with fail
      refine (C10.out.take ⟨#[103, 101, 116]⟩ (by decide)).mono ?_
      rintro e w13 (⟨rfl, hlt14, C13⟩ | ⟨rfl, C13⟩)
      · clear C10
        go_wp2_with fail
        refine (C13.out.callE (HU.out _ _ C13.out.ps (by omega))).mono ?_
        rintro e w15 (⟨x1, p1, N1, c1, k1, rfl, hlt1, hn1, C15⟩ | ⟨t, rfl, HB⟩)
        · clear C13
          obtain ⟨l0, c00, f00, c01, f01, c02, f02, c03, f03, c04, f04, c05, f05⟩ := cells6 (C15.out.m.b 0 rfl)
          go_wp2_with fail
          exact C15.out.retEb (x := Pa.un 7 x1) 0 rfl (by omega) Tryz.results218 rfl rfl (fun U g b o => ⟨bd_un (by decide) (by decide) _, slE_blk1 g (o 0 rfl).1 (o 0 rfl).2⟩)
        · go_wp2_with fail
          exact ⟨rfl, HB.out.pq⟩
      · clear C10
        go_wp2_with fail
        refine (C13.out.callE (HF.out _ _ C13.out.ps hk)).mono ?_
        rintro e w16 (⟨x1, p1, N1, c1, k1, rfl, hlt1, hn1, C16⟩ | ⟨t, rfl, HB⟩)
        · clear C13
          obtain ⟨l0, c00, f00, c01, f01, c02, f02, c03, f03, c04, f04, c05, f05⟩ := cells6 (C16.out.m.b 0 rfl)
          go_wp2_with fail
          exact C16.out.retE (x := x1) 0 rfl (by omega) Tryz.results218 rfl rfl (fun U b o => o 0 rfl)
        · go_wp2_with fail
          exact ⟨rfl, HB.out.pq⟩
end Go.Proofs.YtdckddkalgnlpaaGreatDoor
namespace Go.Proofs.YtdckddkalgnlpaaGreatDoor
open Go.RowKit Go.Maps Pw
/-- the contract of operand -/
def OC (L : List Lex.Tok) (n tbk tc P m : Nat) : Prop := ∀ k w, PS L n tbk tc P k w → n - k ≤ m → Calls Tryz.prog 198 #[.pointer (some ⟨P, 0, none⟩)] w (PQ L n tbk tc P k (fun f ts => Pa.pO f ts) rdE w)
theorem pFo (a : Tr.E) (f : Nat) (ts : Pa.Toks) : Pa.pF (f + 1) a ts = Pa.opt [46] (fun r => (Pa.word 2 r).bind fun n r => Pa.pF f (Pa.fld n a) r) (fun r => .ok a r) ts := Pa.pF_s f a ts
set_option maxRecDepth 100000 in
set_option maxHeartbeats 8000000 in
theorem postfix_of {L : List Lex.Tok} {n tbk tc P m : Nat} (hL : Pa.TkL L n) (hO : OC L n tbk tc P m) : EC L n tbk tc P 223 7 m := by
  intro k w hp hk
  have hnm := hL.few
  have HO := Lib.hid hO
  clear hO
  obtain ⟨w1, HW, C1⟩ := ((Cx.start hL hp (fun f ts => Pa.pE f 7 ts)).spec Pa.pE_7).boxR #[.int .i64 0, .int .i64 0, .int .i64 0, .string ⟨#[]⟩, .bool false, .slice none 0 0] 33
  clear hL hp
  go_enter Tryz.func223, Tryz.ntmps223
  go_upto_region 1 with fail
  rw [← HW.out]
  clear HW
  go_wp2_with fail
  refine (C1.out.callE (HO.out _ _ C1.out.ps hk)).mono ?_
  rintro e w2 (⟨x1, p1, N1, c1, k1, rfl, hlt1, hn1, C2⟩ | ⟨t, rfl, HB⟩)
  · clear C1
    obtain ⟨X, w3, HX, HW, hx3, C3⟩ := C2.out.boxE #[.int .i64 x1.kind, .int .i64 x1.op, .int .i64 x1.int, .string x1.name, .bool x1.at_, .slice p1 N1 c1] 33
    go_wp2_with fail
    rw [← HX.out, ← HW.out]
    clear HX HW C2
    go_loopg [6] (n - k1) (fun gg s6 wr => ∃ k', gg = n - k' ∧ k < k' ∧ k' ≤ n ∧ ∃ (x : Tr.E) (p : Option Addr) (N c B : Nat), Hid (Cx L n tbk tc P k w (fun f => Pa.pE f 7 (Pa.rest L n k)) k' [(X, #[.int .i64 x.kind, .int .i64 x.op, .int .i64 x.int, .string x.name, .bool x.at_, .slice p N c], 33), (w.heap.size, #[.int .i64 0, .int .i64 0, .int .i64 0, .string ⟨#[]⟩, .bool false, .slice none 0 0], 33)] [im B (fun U => ReadET U (x, .slice p N c))] (fun f ts => Pa.pF f x ts) wr))
    case atStart => exact ⟨k1, rfl, hlt1, hn1, x1, p1, N1, c1, _, C3⟩
    case round =>
      clear C3 hlt1 hn1 hx3
      obtain ⟨k', rfl, hltk, hnk, x, p, N, c, B, CR⟩ := hrel
      have C4 := Lib.hid (CR.out.spec (pFo x))
      clear CR
      go_wp2_with fail
      refine (C4.out.take ⟨#[46]⟩ (by decide)).mono ?_
      rintro e w5 (⟨rfl, hlt6, C5⟩ | ⟨rfl, C5⟩)
      · clear C4
        go_upto_region 3 with fail
        obtain ⟨w7, HW, C7⟩ := C5.out.drewE
        refine wp_region_held_drew (S := fun _ => True) (by kernel_rfl) trivial (fun _ => ?_)
        rw [← HW.out]
        clear HW C5
        refine rT 0 (some 8) ?_
        try simp only [Act.put, q0, q1, q2]
        refine rR2 1 (some 9) 2 (some 10) (fun K hK => ?_) (fun K hK => ?_)
        · go_simp
          refine (C7.out.name).mono ?_
          rintro e w8 (⟨s1, rfl, hlt1, hsz1, C8⟩ | ⟨t, rfl, HB⟩)
          · clear C7
            go_wp2_with fail
            refine hK.out _ _ trivial (fun _ => ?_)
            clear hK K
            try simp only [Act.put, q0, q1, q2]
            refine rR1 2 (some 10) (fun K hK => ?_)
            obtain ⟨l0, c00, f00, c01, f01, c02, f02, c03, f03, c04, f04, c05, f05⟩ := cells6 (C8.out.m.b 0 rfl)
            go_simp
            refine hK.out _ _ trivial (fun _ => ?_)
            clear hK K
            try simp only [Act.put, q0, q1, q2]
            clear l0 c00 f00 c01 f01 c02 f02 c03 f03 c04 f04 c05 f05
            refine rR1 3 (some 11) (fun K hK => ?_)
            obtain ⟨X9, w9, HX, HW, hx9, C9⟩ := C8.out.boxE #[.int .i64 x.kind, .int .i64 x.op, .int .i64 x.int, .string x.name, .bool x.at_, .slice p N c] 33
            go_simp
            refine hK.out _ _ trivial (fun _ => ?_)
            clear hK K
            try simp only [Act.put, q0, q1, q2]
            rw [← HX.out, ← HW.out]
            clear HX HW C8
            refine rT 4 (some 12) ?_
            try simp only [Act.put, q0, q1, q2]
            refine rR1 5 none (fun K hK => ?_)
            obtain ⟨l1, c10, f10, c11, f11, c12, f12, c13, f13, c14, f14, c15, f15⟩ := cells6 (C9.out.m.b 1 rfl)
            go_simp
            refine hK.out _ _ trivial (fun _ => ?_)
            clear hK K
            try simp only [Act.put, q0, q1, q2]
            refine wpAnyH_done (by kernel_rfl) ?_ _
            clear l1 c10 f10 c11 f11 c12 f12 c13 f13 c14 f14 c15 f15
            have C10 := Lib.hid ((C9.out.mm (C9.out.m.set 1 rfl (set6_gr _ _ _ _ _ _ _ _ ) (set6_blk (.int .i64 4) (.int .i64 0) (.int .i64 0) (.string s1) (.bool false) (.slice (some ⟨X9, 0, none⟩) 1 1) (C9.out.m.b 1 rfl)))))
            have D10 := Lib.hid (C10.out.mm (C10.out.m.fold (rd := fun U => ReadET U (Pa.fld s1 x, .slice (some ⟨X9, 0, none⟩) 1 1)) (mn_E _) (fun U b o => ⟨bd_fld hsz1 x, slE_blk1 b (o 0 rfl).1 (o 0 rfl).2⟩)))
            go_wp2_with fail
            clear C9 C10
            go_roundg (n - (k' + 1 + 1))
            case measure => omega
            case rel => exact ⟨k' + 1 + 1, rfl, by omega, by omega, Pa.fld s1 x, _, _, _, _, D10⟩
          · go_wp2_with fail
            exact ⟨rfl, HB.out.pq⟩
        · obtain ⟨l0, c00, f00, c01, f01, c02, f02, c03, f03, c04, f04, c05, f05⟩ := cells6 (C7.out.m.b 0 rfl)
          go_simp
          refine hK.out _ _ trivial (fun _ => ?_)
          clear hK K
          try simp only [Act.put, q0, q1, q2]
          clear l0 c00 f00 c01 f01 c02 f02 c03 f03 c04 f04 c05 f05
          refine rR2 1 (some 9) 3 (some 11) (fun K hK => ?_) (fun K hK => ?_)
          · go_simp
            refine (C7.out.name).mono ?_
            rintro e w11 (⟨s1, rfl, hlt1, hsz1, C11⟩ | ⟨t, rfl, HB⟩)
            · clear C7
              go_wp2_with fail
              refine hK.out _ _ trivial (fun _ => ?_)
              clear hK K
              try simp only [Act.put, q0, q1, q2]
              refine rR1 3 (some 11) (fun K hK => ?_)
              obtain ⟨X12, w12, HX, HW, hx12, C12⟩ := C11.out.boxE #[.int .i64 x.kind, .int .i64 x.op, .int .i64 x.int, .string x.name, .bool x.at_, .slice p N c] 33
              go_simp
              refine hK.out _ _ trivial (fun _ => ?_)
              clear hK K
              try simp only [Act.put, q0, q1, q2]
              rw [← HX.out, ← HW.out]
              clear HX HW C11
              refine rT 4 (some 12) ?_
              try simp only [Act.put, q0, q1, q2]
              refine rR1 5 none (fun K hK => ?_)
              obtain ⟨l1, c10, f10, c11, f11, c12, f12, c13, f13, c14, f14, c15, f15⟩ := cells6 (C12.out.m.b 1 rfl)
              go_simp
              refine hK.out _ _ trivial (fun _ => ?_)
              clear hK K
              try simp only [Act.put, q0, q1, q2]
              refine wpAnyH_done (by kernel_rfl) ?_ _
              clear l1 c10 f10 c11 f11 c12 f12 c13 f13 c14 f14 c15 f15
              have C13 := Lib.hid ((C12.out.mm (C12.out.m.set 1 rfl (set6_gr _ _ _ _ _ _ _ _ ) (set6_blk (.int .i64 4) (.int .i64 0) (.int .i64 0) (.string s1) (.bool false) (.slice (some ⟨X12, 0, none⟩) 1 1) (C12.out.m.b 1 rfl)))))
              have D13 := Lib.hid (C13.out.mm (C13.out.m.fold (rd := fun U => ReadET U (Pa.fld s1 x, .slice (some ⟨X12, 0, none⟩) 1 1)) (mn_E _) (fun U b o => ⟨bd_fld hsz1 x, slE_blk1 b (o 0 rfl).1 (o 0 rfl).2⟩)))
              go_wp2_with fail
              clear C12 C13
              go_roundg (n - (k' + 1 + 1))
              case measure => omega
              case rel => exact ⟨k' + 1 + 1, rfl, by omega, by omega, Pa.fld s1 x, _, _, _, _, D13⟩
            · go_wp2_with fail
              exact ⟨rfl, HB.out.pq⟩
          · obtain ⟨X14, w14, HX, HW, hx14, C14⟩ := C7.out.boxE #[.int .i64 x.kind, .int .i64 x.op, .int .i64 x.int, .string x.name, .bool x.at_, .slice p N c] 33
            go_simp
            refine hK.out _ _ trivial (fun _ => ?_)
            clear hK K
            try simp only [Act.put, q0, q1, q2]
            rw [← HX.out, ← HW.out]
            clear HX HW C7
            refine rR1 1 (some 9) (fun K hK => ?_)
            go_simp
            refine (C14.out.name).mono ?_
            rintro e w15 (⟨s1, rfl, hlt1, hsz1, C15⟩ | ⟨t, rfl, HB⟩)
            · clear C14
              go_wp2_with fail
              refine hK.out _ _ trivial (fun _ => ?_)
              clear hK K
              try simp only [Act.put, q0, q1, q2]
              refine rT 4 (some 12) ?_
              try simp only [Act.put, q0, q1, q2]
              refine rR1 5 none (fun K hK => ?_)
              obtain ⟨l1, c10, f10, c11, f11, c12, f12, c13, f13, c14, f14, c15, f15⟩ := cells6 (C15.out.m.b 1 rfl)
              go_simp
              refine hK.out _ _ trivial (fun _ => ?_)
              clear hK K
              try simp only [Act.put, q0, q1, q2]
              refine wpAnyH_done (by kernel_rfl) ?_ _
              clear l1 c10 f10 c11 f11 c12 f12 c13 f13 c14 f14 c15 f15
              have C16 := Lib.hid ((C15.out.mm (C15.out.m.set 1 rfl (set6_gr _ _ _ _ _ _ _ _ ) (set6_blk (.int .i64 4) (.int .i64 0) (.int .i64 0) (.string s1) (.bool false) (.slice (some ⟨X14, 0, none⟩) 1 1) (C15.out.m.b 1 rfl)))))
              have D16 := Lib.hid (C16.out.mm (C16.out.m.fold (rd := fun U => ReadET U (Pa.fld s1 x, .slice (some ⟨X14, 0, none⟩) 1 1)) (mn_E _) (fun U b o => ⟨bd_fld hsz1 x, slE_blk1 b (o 0 rfl).1 (o 0 rfl).2⟩)))
              go_wp2_with fail
              clear C15 C16
              go_roundg (n - (k' + 1 + 1))
              case measure => omega
              case rel => exact ⟨k' + 1 + 1, rfl, by omega, by omega, Pa.fld s1 x, _, _, _, _, D16⟩
            · go_wp2_with fail
              exact ⟨rfl, HB.out.pq⟩
      · clear C4
        obtain ⟨l0, c00, f00, c01, f01, c02, f02, c03, f03, c04, f04, c05, f05⟩ := cells6 (C5.out.m.b 0 rfl)
        obtain ⟨l1, c10, f10, c11, f11, c12, f12, c13, f13, c14, f14, c15, f15⟩ := cells6 (C5.out.m.b 1 rfl)
        go_wp2_with fail
        exact C5.out.retE (x := x) 1 rfl (by omega) Tryz.results223 rfl rfl (fun U b o => o 0 rfl)
  · go_wp2_with fail
    exact ⟨rfl, HB.out.pq⟩
end Go.Proofs.YtdckddkalgnlpaaGreatDoor
namespace Go.Proofs.YtdckddkalgnlpaaGreatDoor
open Go.RowKit Go.Maps Pw
/-- the list of arguments -/
def LC (L : List Lex.Tok) (n tbk tc P m : Nat) : Prop := ∀ k w, PS L n tbk tc P k w → n - k ≤ m → Calls Tryz.prog 217 #[.pointer (some ⟨P, 0, none⟩), .func (.func 33) #[.pointer (some ⟨P, 0, none⟩)] #[]] w (PR L n tbk tc P k (fun f ts => Pa.pA f ts) (rdL w.heap.size) w)
theorem pO_at {L : List Lex.Tok} {n k : Nat} {t : Lex.Tok} (hlt : k < n) (ht : L[k]? = some t) (f : Nat) : Pa.pO (f + 1) (Pa.rest L n k) = if t.kind = 1 then .ok (Pa.num t.val) (Pa.rest L n (k + 1)) else if t.kind = 2 then .ok (Pa.var ⟨t.text.toArray⟩) (Pa.rest L n (k + 1))
    else if Pa.is [110, 105, 108] (Pa.rest L n k) then .ok (Pa.leaf 1) (Pa.rest L n (k + 1))
    else if Pa.is [116, 104, 105, 115] (Pa.rest L n k) then .ok (Pa.leaf 2) (Pa.rest L n (k + 1))
    else if Pa.is [40] (Pa.rest L n k) then (Pa.pE f 0 (Pa.rest L n (k + 1))).bind fun a r => (Pa.expect [41] r).bind fun _ r => .ok a r
    else if Pa.is [110, 101, 119] (Pa.rest L n k) then
      (Pa.word 3 (Pa.rest L n (k + 1))).bind fun n r => (Pa.pA f r).bind fun l r =>
        if Pa.is [97, 116] r then (Pa.pE f 6 r.tail).bind fun b r => .ok (Pa.new n true (l ++ [b])) r else .ok (Pa.new n false l) r
    else .bad (Pa.rest L n k) := by
  rw [Pa.rest_cons hlt ht, Pa.pO_s]
  rfl
theorem pO_oth {L : List Lex.Tok} {n k : Nat} {t : Lex.Tok} (hL : Pa.TkL L n) (hk : k ≤ n) (ht : L[k]? = some t) (h1 : t.kind ≠ 1) (h2 : t.kind ≠ 2) (f : Nat) : Pa.pO (f + 1) (Pa.rest L n k) =
    Pa.opt [110, 105, 108] (fun r => .ok (Pa.leaf 1) r) (Pa.opt [116, 104, 105, 115] (fun r => .ok (Pa.leaf 2) r) (Pa.opt [40] (fun r => (Pa.pE f 0 r).bind fun a r => (Pa.expect [41] r).bind fun _ r => .ok a r)
      fun r => (Pa.expect [110, 101, 119] r).bind fun _ r => (Pa.word 3 r).bind fun n r => (Pa.pA f r).bind fun l r => Pa.opt [97, 116] (fun r => (Pa.pE f 6 r).bind fun b r => .ok (Pa.new n true (l ++ [b])) r) (fun r => .ok (Pa.new n false l) r) r)) (Pa.rest L n k) := by
  rcases Nat.lt_or_ge k n with hlt | hge
  · rw [pO_at hlt ht, if_neg h1, if_neg h2]
    unfold Pa.opt
    rw [Pa.rest_tail hL hlt]
    split
    · rfl
    split
    · rfl
    split
    · rfl
    show _ = (Pa.expect [110, 101, 119] (Pa.rest L n k)).bind _
    rw [Pa.expect_at hL hk]
    split <;> rfl
  · obtain rfl : k = n := by omega
    rw [Pa.rest_end, Pa.pO]
    rfl
set_option maxRecDepth 100000 in
set_option maxHeartbeats 8000000 in
theorem operand_num {L : List Lex.Tok} {n tbk tc P : Nat} (hL : Pa.TkL L n) {k : Nat} (w : World) (hp : PS L n tbk tc P k w) {t : Lex.Tok} (ht : L[k]? = some t) (hk1 : t.kind = 1) :
    Calls Tryz.prog 198 #[.pointer (some ⟨P, 0, none⟩)] w (PQ L n tbk tc P k (fun f ts => Pa.pO f ts) rdE w) := by
  have HT := Lib.hid ht
  have k1 := kindI 1 hk1
  have hkn := kind_lt hL hp.le ht (by omega)
  have HV := Lib.hid (hL.pos t (List.mem_of_getElem? ht)).2.1
  have HK := Lib.hid hk1
  obtain ⟨w17, HW, C17⟩ := (Cx.start hL hp (fun f ts => Pa.pO f ts)).boxR #[.int .i64 0, .int .i64 0, .int .i64 0, .string ⟨#[]⟩, .bool false, .slice none 0 0] 33
  clear hL hp ht hk1
  go_enter Tryz.func198, Tryz.ntmps198
  go_upto_region 1 with fail
  rw [← HW.out]
  clear HW
  go_wp2_with fail
  refine (C17.out.next HT.out).mono ?_
  rintro e w18 ⟨rfl, C18⟩
  clear C17
  obtain ⟨T, w19, HX, HW, hx19, C19⟩ := C18.out.boxE #[.int .i64 t.kind, .string ⟨t.text.toArray⟩, .int .i64 t.val, .int .i64 t.pos] 59
  go_upto_region 2 with fail
  rw [← HX.out, ← HW.out]
  clear HX HW C18
  have p1 := cell_of_blkP C19.out.ps.blk (j := 1) (u := .int .i64 k) rfl
  have q1 := blk_free C19.out.ps.blk 1
  have hfew := C19.out.hL.few
  have hplt := C19.out.m.pw
  obtain ⟨l0, c00, f00, c01, f01, c02, f02, c03, f03⟩ := cells4 (C19.out.m.b 0 rfl)
  obtain ⟨l1, c10, f10, c11, f11, c12, f12, c13, f13, c14, f14, c15, f15⟩ := cells6 (C19.out.m.b 1 rfl)
  go_wp2_with fail
  have CN := Lib.hid (C19.out.inc hkn (G' := fun _ ts => .ok (Pa.num t.val) ts) (fun x hx => .step (fun f => (pO_at hkn HT.out f).trans (if_pos HK.out)) hx))
  exact CN.out.retE (x := Pa.num t.val) 1 rfl (by omega) Tryz.results198 rfl rfl (fun U b o => ⟨bd_num HV.out, .nil none 0⟩)
set_option maxRecDepth 100000 in
set_option maxHeartbeats 8000000 in
theorem operand_name {L : List Lex.Tok} {n tbk tc P : Nat} (hL : Pa.TkL L n) {k : Nat} (w : World) (hp : PS L n tbk tc P k w) {t : Lex.Tok} (ht : L[k]? = some t) (hk2 : t.kind = 2) :
    Calls Tryz.prog 198 #[.pointer (some ⟨P, 0, none⟩)] w (PQ L n tbk tc P k (fun f ts => Pa.pO f ts) rdE w) := by
  have HT := Lib.hid ht
  have k1 := kindN 1 (show t.kind ≠ 1 by omega)
  have k2 := kindI 2 hk2
  have hkn := kind_lt hL hp.le ht (by omega)
  have HK := Lib.hid hk2
  obtain ⟨w20, HW, C20⟩ := ((Cx.start hL hp (fun f ts => Pa.pO f ts)).at_ (G' := fun f ts => (Pa.word 2 ts).bind fun a r => .ok (Pa.var a) r) (fun f => by rw [pO_at hkn ht, if_neg (by omega), if_pos hk2, word_at hkn ht hk2]; rfl)).boxR #[.int .i64 0, .int .i64 0, .int .i64 0, .string ⟨#[]⟩, .bool false, .slice none 0 0] 33
  clear hL hp ht hk2
  go_enter Tryz.func198, Tryz.ntmps198
  go_upto_region 1 with fail
  rw [← HW.out]
  clear HW
  go_wp2_with fail
  refine (C20.out.next HT.out).mono ?_
  rintro e w21 ⟨rfl, C21⟩
  clear C20
  obtain ⟨T, w22, HX, HW, hx22, C22⟩ := C21.out.boxE #[.int .i64 t.kind, .string ⟨t.text.toArray⟩, .int .i64 t.val, .int .i64 t.pos] 59
  go_upto_region 2 with fail
  rw [← HX.out, ← HW.out]
  clear HX HW C21
  obtain ⟨l0, c00, f00, c01, f01, c02, f02, c03, f03⟩ := cells4 (C22.out.m.b 0 rfl)
  go_wp2_with fail
  clear l0 c00 f00 c01 f01 c02 f02 c03 f03
  refine (C22.out.name).mono ?_
  rintro e w23 (⟨s1, rfl, hlt1, hsz1, C23⟩ | ⟨t, rfl, HB⟩)
  · clear C22
    obtain ⟨l1, c10, f10, c11, f11, c12, f12, c13, f13, c14, f14, c15, f15⟩ := cells6 (C23.out.m.b 1 rfl)
    go_wp2_with fail
    exact C23.out.retE (x := Pa.var s1) 1 rfl (by omega) Tryz.results198 rfl rfl (fun U b o => ⟨bd_var hsz1, .nil none 0⟩)
  · go_wp2_with fail
    exact ⟨rfl, HB.out.pq⟩
set_option maxRecDepth 100000 in
set_option maxHeartbeats 8000000 in
theorem operand_oth {L : List Lex.Tok} {n tbk tc P m : Nat} (hL : Pa.TkL L n) {k : Nat} (w : World) (hp : PS L n tbk tc P k w) {t : Lex.Tok} (ht : L[k]? = some t) (hk1 : t.kind ≠ 1) (hk2 : t.kind ≠ 2) (hk : n - k ≤ m) (hE : EL L n tbk tc P 33 0 m) (hA : ∀ m', m' < m → LC L n tbk tc P m') (hU : EL L n tbk tc P 218 6 m) :
    Calls Tryz.prog 198 #[.pointer (some ⟨P, 0, none⟩)] w (PQ L n tbk tc P k (fun f ts => Pa.pO f ts) rdE w) := by
  have HT := Lib.hid ht
  have k1 := kindN 1 hk1
  have k2 := kindN 2 hk2
  have HE := Lib.hid hE
  have hA := Lib.hid hA
  have HU := Lib.hid hU
  obtain ⟨w24, HW, C24⟩ := ((Cx.start hL hp (fun f ts => Pa.pO f ts)).at_ (pO_oth hL hp.le ht hk1 hk2)).boxR #[.int .i64 0, .int .i64 0, .int .i64 0, .string ⟨#[]⟩, .bool false, .slice none 0 0] 33
  clear hL hp ht hk1 hk2 hE hU
  go_enter Tryz.func198, Tryz.ntmps198
  go_upto_region 1 with fail
  rw [← HW.out]
  clear HW
  go_wp2_with fail
  refine (C24.out.next HT.out).mono ?_
  rintro e w25 ⟨rfl, C25⟩
  clear C24
  obtain ⟨T, w26, HX, HW, hx26, C26⟩ := C25.out.boxE #[.int .i64 t.kind, .string ⟨t.text.toArray⟩, .int .i64 t.val, .int .i64 t.pos] 59
  go_upto_region 2 with fail
  rw [← HX.out, ← HW.out]
  clear HX HW C25
  obtain ⟨l0, c00, f00, c01, f01, c02, f02, c03, f03⟩ := cells4 (C26.out.m.b 0 rfl)
  go_wp2_with fail
  clear l0 c00 f00 c01 f01 c02 f02 c03 f03
  refine (C26.out.take ⟨#[110, 105, 108]⟩ (by decide)).mono ?_
  rintro e w27 (⟨rfl, hlt28, C27⟩ | ⟨rfl, C27⟩)
  · clear C26
    obtain ⟨l1, c10, f10, c11, f11, c12, f12, c13, f13, c14, f14, c15, f15⟩ := cells6 (C27.out.m.b 1 rfl)
    go_wp2_with fail
    exact C27.out.retE (x := Pa.leaf 1) 1 rfl (by omega) Tryz.results198 rfl rfl (fun U b o => ⟨bd_leaf (by decide) (by decide), .nil none 0⟩)
  · clear C26
    go_wp2_with fail
    refine (C27.out.take ⟨#[116, 104, 105, 115]⟩ (by decide)).mono ?_
    rintro e w29 (⟨rfl, hlt30, C29⟩ | ⟨rfl, C29⟩)
    · clear C27
      obtain ⟨l1, c10, f10, c11, f11, c12, f12, c13, f13, c14, f14, c15, f15⟩ := cells6 (C29.out.m.b 1 rfl)
      go_wp2_with fail
      exact C29.out.retE (x := Pa.leaf 2) 1 rfl (by omega) Tryz.results198 rfl rfl (fun U b o => ⟨bd_leaf (by decide) (by decide), .nil none 0⟩)
    · clear C27
      go_wp2_with fail
      refine (C29.out.take ⟨#[40]⟩ (by decide)).mono ?_
      rintro e w31 (⟨rfl, hlt32, C31⟩ | ⟨rfl, C31⟩)
      · clear C29
        go_wp2_with fail
        refine (C31.out.callE (HE.out _ _ C31.out.ps (by omega))).mono ?_
        rintro e w33 (⟨x1, p1, N1, c1, k1, rfl, hlt1, hn1, C33⟩ | ⟨t, rfl, HB⟩)
        · clear C31
          obtain ⟨X, w34, HX, HW, hx34, C34⟩ := C33.out.boxE #[.int .i64 x1.kind, .int .i64 x1.op, .int .i64 x1.int, .string x1.name, .bool x1.at_, .slice p1 N1 c1] 33
          go_upto_region 13 with fail
          rw [← HX.out, ← HW.out]
          clear HX HW C33
          go_wp2_with fail
          refine (C34.out.exp ⟨#[41]⟩ (by decide)).mono ?_
          rintro e w36 (⟨rfl, hlt35, C36⟩ | ⟨t, rfl, HB⟩)
          · clear C34
            obtain ⟨l0, c00, f00, c01, f01, c02, f02, c03, f03, c04, f04, c05, f05⟩ := cells6 (C36.out.m.b 0 rfl)
            obtain ⟨l2, c20, f20, c21, f21, c22, f22, c23, f23, c24, f24, c25, f25⟩ := cells6 (C36.out.m.b 2 rfl)
            go_wp2_with fail
            exact C36.out.retE (x := x1) 2 rfl (by omega) Tryz.results198 rfl rfl (fun U b o => o 0 rfl)
          · go_wp2_with fail
            exact ⟨rfl, HB.out.pq⟩
        · go_wp2_with fail
          exact ⟨rfl, HB.out.pq⟩
      · clear C29
        go_wp2_with fail
        refine (C31.out.exp ⟨#[110, 101, 119]⟩ (by decide)).mono ?_
        rintro e w38 (⟨rfl, hlt37, C38⟩ | ⟨t, rfl, HB⟩)
        · clear C31
          go_wp2_with fail
          refine (C38.out.wrd).mono ?_
          rintro e w39 (⟨s1, rfl, hlt1, hsz1, C39⟩ | ⟨t, rfl, HB⟩)
          · clear C38
            obtain ⟨X, w40, HX, HW, hx40, C40⟩ := C39.out.boxE #[.int .i64 5, .int .i64 0, .int .i64 0, .string s1, .bool false, .slice none 0 0] 33
            go_wp2_with fail
            rw [← HX.out, ← HW.out]
            clear HX HW C39
            refine (C40.out.callL (hA.out (n - (k + 1 + 1)) (by omega) _ _ C40.out.ps (Nat.le_refl _))).mono ?_
            rintro e w41 (⟨tr2, p2, N2, c2, k2, rfl, HTL2, hlt2, hn2, C41⟩ | ⟨t, rfl, HB⟩)
            · clear C40
              obtain ⟨l0, c00, f00, c01, f01, c02, f02, c03, f03, c04, f04, c05, f05⟩ := cells6 (C41.out.m.b 0 rfl)
              obtain ⟨w42, HW⟩ : ∃ q, Hid (q = (w41.setCell ⟨X, 5, none⟩ (.slice p2 N2 c2))) := ⟨_, Lib.hid rfl⟩
              have C42 := Lib.hid (C41.out.mm (W' := w42) (C41.out.m.set 0 rfl (by rw [HW.out]; exact gr_set w41 X 5 (.slice p2 N2 c2)) (by rw [HW.out]; exact (heap_set (j := 5) (.slice p2 N2 c2) (C41.out.m.b 0 rfl)))))
              go_upto_region 18 with fail
              rw [← HW.out]
              clear HW C41 l0 c00 f00 c01 f01 c02 f02 c03 f03 c04 f04 c05 f05
              go_wp2_with fail
              refine (C42.out.take ⟨#[97, 116]⟩ (by decide)).mono ?_
              rintro e w43 (⟨rfl, hlt44, C43⟩ | ⟨rfl, C43⟩)
              · clear C42
                obtain ⟨l0, c00, f00, c01, f01, c02, f02, c03, f03, c04, f04, c05, f05⟩ := cells6 (C43.out.m.b 0 rfl)
                obtain ⟨w45, HW⟩ : ∃ q, Hid (q = (w43.setCell ⟨X, 4, none⟩ (.bool true))) := ⟨_, Lib.hid rfl⟩
                have C45 := Lib.hid (C43.out.mm (W' := w45) (C43.out.m.set 0 rfl (by rw [HW.out]; exact gr_set w43 X 4 (.bool true)) (by rw [HW.out]; exact (heap_set (j := 4) (.bool true) (C43.out.m.b 0 rfl)))))
                go_upto_region 20 with fail
                rw [← HW.out]
                clear HW C43 l0 c00 f00 c01 f01 c02 f02 c03 f03 c04 f04 c05 f05
                obtain ⟨w46, HW, C46⟩ := C45.out.drewE
                refine wp_region_held_drew (S := fun _ => True) (by kernel_rfl) trivial (fun _ => ?_)
                rw [← HW.out]
                clear HW C45
                refine rT 0 (some 60) ?_
                try simp only [Act.put, q0, q1, q2]
                refine rT 2 (some 62) ?_
                try simp only [Act.put, q0, q1, q2]
                have HLEN := HTL2.out
                refine rR2 1 (some 61) 3 (some 63) (fun K hK => ?_) (fun K hK => ?_)
                · obtain ⟨l0, c00, f00, c01, f01, c02, f02, c03, f03, c04, f04, c05, f05⟩ := cells6 (C46.out.m.b 0 rfl)
                  go_simp
                  refine hK.out _ _ trivial (fun _ => ?_)
                  clear hK K
                  try simp only [Act.put, q0, q1, q2]
                  clear l0 c00 f00 c01 f01 c02 f02 c03 f03 c04 f04 c05 f05
                  refine rR1 3 (some 63) (fun K hK => ?_)
                  go_simp
                  refine (C46.out.callE (HU.out _ _ C46.out.ps (by omega))).mono ?_
                  rintro e w47 (⟨x3, p3, N3, c3, k3, rfl, hlt3, hn3, C47⟩ | ⟨t, rfl, HB⟩)
                  · clear C46
                    go_wp2_with fail
                    refine hK.out _ _ trivial (fun _ => ?_)
                    clear hK K
                    try simp only [Act.put, q0, q1, q2]
                    refine rR1 4 (some 64) (fun K hK => ?_)
                    obtain ⟨X48, w48, HX, HW, hx48, C48⟩ := C47.out.boxE #[.int .i64 x3.kind, .int .i64 x3.op, .int .i64 x3.int, .string x3.name, .bool x3.at_, .slice p3 N3 c3] 33
                    go_simp
                    refine hK.out _ _ trivial (fun _ => ?_)
                    clear hK K
                    try simp only [Act.put, q0, q1, q2]
                    rw [← HX.out, ← HW.out]
                    clear HX HW C47
                    refine rR1 5 (some 65) (fun K hK => ?_)
                    refine C48.out.pushS tkE rfl HLEN (by rfl) _ _ (by rfl) (by rfl) (by rfl) ?_
                    intro p9 N9 c9 w49 HN9 C49
                    clear C48
                    refine hK.out _ _ trivial (fun _ => ?_)
                    clear hK K
                    try simp only [Act.put, q0, q1, q2]
                    refine rT 6 (some 66) ?_
                    try simp only [Act.put, q0, q1, q2]
                    refine rR1 7 none (fun K hK => ?_)
                    obtain ⟨l0, c00, f00, c01, f01, c02, f02, c03, f03, c04, f04, c05, f05⟩ := cells6 (C49.out.m.b 0 rfl)
                    obtain ⟨w50, HW⟩ : ∃ q, Hid (q = (w49.setCell ⟨X, 5, none⟩ (.slice p9 N9 c9))) := ⟨_, Lib.hid rfl⟩
                    have C50 := Lib.hid (C49.out.mm (W' := w50) (C49.out.m.set 0 rfl (by rw [HW.out]; exact gr_set w49 X 5 (.slice p9 N9 c9)) (by rw [HW.out]; exact (heap_set (j := 5) (.slice p9 N9 c9) (C49.out.m.b 0 rfl)))))
                    go_simp
                    refine hK.out _ _ trivial (fun _ => ?_)
                    clear hK K
                    try simp only [Act.put, q0, q1, q2]
                    refine wpAnyH_done (by kernel_rfl) ?_ _
                    rw [← HW.out]
                    clear HW C49 l0 c00 f00 c01 f01 c02 f02 c03 f03 c04 f04 c05 f05
                    obtain ⟨l0, c00, f00, c01, f01, c02, f02, c03, f03, c04, f04, c05, f05⟩ := cells6 (C50.out.m.b 0 rfl)
                    obtain ⟨l2, c20, f20, c21, f21, c22, f22, c23, f23, c24, f24, c25, f25⟩ := cells6 (C50.out.m.b 2 rfl)
                    go_wp2_with fail
                    exact C50.out.retE (x := Pa.new s1 true (tr2.map Prod.fst ++ [x3])) 2 rfl (by omega) Tryz.results198 rfl rfl (fun U b o => ⟨bd_new hsz1 _ _, (List.map_append (f := (Prod.fst : ET → Tr.E)) (l₁ := tr2) (l₂ := [(x3, .slice p3 N3 c3)])) ▸ o 0 rfl⟩)
                  · go_wp2_with fail
                    exact ⟨rfl, HB.out.pq⟩
                · go_simp
                  refine (C46.out.callE (HU.out _ _ C46.out.ps (by omega))).mono ?_
                  rintro e w51 (⟨x3, p3, N3, c3, k3, rfl, hlt3, hn3, C51⟩ | ⟨t, rfl, HB⟩)
                  · clear C46
                    go_wp2_with fail
                    refine hK.out _ _ trivial (fun _ => ?_)
                    clear hK K
                    try simp only [Act.put, q0, q1, q2]
                    refine rR2 1 (some 61) 4 (some 64) (fun K hK => ?_) (fun K hK => ?_)
                    · obtain ⟨l0, c00, f00, c01, f01, c02, f02, c03, f03, c04, f04, c05, f05⟩ := cells6 (C51.out.m.b 0 rfl)
                      go_simp
                      refine hK.out _ _ trivial (fun _ => ?_)
                      clear hK K
                      try simp only [Act.put, q0, q1, q2]
                      clear l0 c00 f00 c01 f01 c02 f02 c03 f03 c04 f04 c05 f05
                      refine rR1 4 (some 64) (fun K hK => ?_)
                      obtain ⟨X52, w52, HX, HW, hx52, C52⟩ := C51.out.boxE #[.int .i64 x3.kind, .int .i64 x3.op, .int .i64 x3.int, .string x3.name, .bool x3.at_, .slice p3 N3 c3] 33
                      go_simp
                      refine hK.out _ _ trivial (fun _ => ?_)
                      clear hK K
                      try simp only [Act.put, q0, q1, q2]
                      rw [← HX.out, ← HW.out]
                      clear HX HW C51
                      refine rR1 5 (some 65) (fun K hK => ?_)
                      refine C52.out.pushS tkE rfl HLEN (by rfl) _ _ (by rfl) (by rfl) (by rfl) ?_
                      intro p9 N9 c9 w53 HN9 C53
                      clear C52
                      refine hK.out _ _ trivial (fun _ => ?_)
                      clear hK K
                      try simp only [Act.put, q0, q1, q2]
                      refine rT 6 (some 66) ?_
                      try simp only [Act.put, q0, q1, q2]
                      refine rR1 7 none (fun K hK => ?_)
                      obtain ⟨l0, c00, f00, c01, f01, c02, f02, c03, f03, c04, f04, c05, f05⟩ := cells6 (C53.out.m.b 0 rfl)
                      obtain ⟨w54, HW⟩ : ∃ q, Hid (q = (w53.setCell ⟨X, 5, none⟩ (.slice p9 N9 c9))) := ⟨_, Lib.hid rfl⟩
                      have C54 := Lib.hid (C53.out.mm (W' := w54) (C53.out.m.set 0 rfl (by rw [HW.out]; exact gr_set w53 X 5 (.slice p9 N9 c9)) (by rw [HW.out]; exact (heap_set (j := 5) (.slice p9 N9 c9) (C53.out.m.b 0 rfl)))))
                      go_simp
                      refine hK.out _ _ trivial (fun _ => ?_)
                      clear hK K
                      try simp only [Act.put, q0, q1, q2]
                      refine wpAnyH_done (by kernel_rfl) ?_ _
                      rw [← HW.out]
                      clear HW C53 l0 c00 f00 c01 f01 c02 f02 c03 f03 c04 f04 c05 f05
                      obtain ⟨l0, c00, f00, c01, f01, c02, f02, c03, f03, c04, f04, c05, f05⟩ := cells6 (C54.out.m.b 0 rfl)
                      obtain ⟨l2, c20, f20, c21, f21, c22, f22, c23, f23, c24, f24, c25, f25⟩ := cells6 (C54.out.m.b 2 rfl)
                      go_wp2_with fail
                      exact C54.out.retE (x := Pa.new s1 true (tr2.map Prod.fst ++ [x3])) 2 rfl (by omega) Tryz.results198 rfl rfl (fun U b o => ⟨bd_new hsz1 _ _, (List.map_append (f := (Prod.fst : ET → Tr.E)) (l₁ := tr2) (l₂ := [(x3, .slice p3 N3 c3)])) ▸ o 0 rfl⟩)
                    · obtain ⟨X55, w55, HX, HW, hx55, C55⟩ := C51.out.boxE #[.int .i64 x3.kind, .int .i64 x3.op, .int .i64 x3.int, .string x3.name, .bool x3.at_, .slice p3 N3 c3] 33
                      go_simp
                      refine hK.out _ _ trivial (fun _ => ?_)
                      clear hK K
                      try simp only [Act.put, q0, q1, q2]
                      rw [← HX.out, ← HW.out]
                      clear HX HW C51
                      refine rR1 1 (some 61) (fun K hK => ?_)
                      obtain ⟨l1, c10, f10, c11, f11, c12, f12, c13, f13, c14, f14, c15, f15⟩ := cells6 (C55.out.m.b 1 rfl)
                      go_simp
                      refine hK.out _ _ trivial (fun _ => ?_)
                      clear hK K
                      try simp only [Act.put, q0, q1, q2]
                      clear l1 c10 f10 c11 f11 c12 f12 c13 f13 c14 f14 c15 f15
                      refine rR1 5 (some 65) (fun K hK => ?_)
                      refine C55.out.pushS tkE rfl HLEN (by rfl) _ _ (by rfl) (by rfl) (by rfl) ?_
                      intro p9 N9 c9 w56 HN9 C56
                      clear C55
                      refine hK.out _ _ trivial (fun _ => ?_)
                      clear hK K
                      try simp only [Act.put, q0, q1, q2]
                      refine rT 6 (some 66) ?_
                      try simp only [Act.put, q0, q1, q2]
                      refine rR1 7 none (fun K hK => ?_)
                      obtain ⟨l0, c00, f00, c01, f01, c02, f02, c03, f03, c04, f04, c05, f05⟩ := cells6 (C56.out.m.b 0 rfl)
                      obtain ⟨w57, HW⟩ : ∃ q, Hid (q = (w56.setCell ⟨X, 5, none⟩ (.slice p9 N9 c9))) := ⟨_, Lib.hid rfl⟩
                      have C57 := Lib.hid (C56.out.mm (W' := w57) (C56.out.m.set 0 rfl (by rw [HW.out]; exact gr_set w56 X 5 (.slice p9 N9 c9)) (by rw [HW.out]; exact (heap_set (j := 5) (.slice p9 N9 c9) (C56.out.m.b 0 rfl)))))
                      go_simp
                      refine hK.out _ _ trivial (fun _ => ?_)
                      clear hK K
                      try simp only [Act.put, q0, q1, q2]
                      refine wpAnyH_done (by kernel_rfl) ?_ _
                      rw [← HW.out]
                      clear HW C56 l0 c00 f00 c01 f01 c02 f02 c03 f03 c04 f04 c05 f05
                      obtain ⟨l0, c00, f00, c01, f01, c02, f02, c03, f03, c04, f04, c05, f05⟩ := cells6 (C57.out.m.b 0 rfl)
                      obtain ⟨l2, c20, f20, c21, f21, c22, f22, c23, f23, c24, f24, c25, f25⟩ := cells6 (C57.out.m.b 2 rfl)
                      go_wp2_with fail
                      exact C57.out.retE (x := Pa.new s1 true (tr2.map Prod.fst ++ [x3])) 2 rfl (by omega) Tryz.results198 rfl rfl (fun U b o => ⟨bd_new hsz1 _ _, (List.map_append (f := (Prod.fst : ET → Tr.E)) (l₁ := tr2) (l₂ := [(x3, .slice p3 N3 c3)])) ▸ o 0 rfl⟩)
                  · go_wp2_with fail
                    exact ⟨rfl, HB.out.pq⟩
              · clear C42
                obtain ⟨l0, c00, f00, c01, f01, c02, f02, c03, f03, c04, f04, c05, f05⟩ := cells6 (C43.out.m.b 0 rfl)
                obtain ⟨l2, c20, f20, c21, f21, c22, f22, c23, f23, c24, f24, c25, f25⟩ := cells6 (C43.out.m.b 2 rfl)
                go_wp2_with fail
                exact C43.out.retE (x := Pa.new s1 false (tr2.map Prod.fst)) 2 rfl (by omega) Tryz.results198 rfl rfl (fun U b o => ⟨bd_new hsz1 _ _, o 0 rfl⟩)
            · go_wp2_with fail
              exact ⟨rfl, HB.out.pq⟩
          · go_wp2_with fail
            exact ⟨rfl, HB.out.pq⟩
        · go_wp2_with fail
          exact ⟨rfl, HB.out.pq⟩
theorem operand_of {L : List Lex.Tok} {n tbk tc P m : Nat} (hL : Pa.TkL L n) (hE : EL L n tbk tc P 33 0 m) (hA : ∀ m', m' < m → LC L n tbk tc P m') (hU : EL L n tbk tc P 218 6 m) : OC L n tbk tc P m := by
  intro k w hp hk
  obtain ⟨t, ht⟩ := hL.get hp.le
  by_cases h1 : t.kind = 1
  · exact operand_num hL w hp ht h1
  · by_cases h2 : t.kind = 2
    · exact operand_name hL w hp ht h2
    · exact operand_oth hL w hp ht h1 h2 hk hE hA hU
end Go.Proofs.YtdckddkalgnlpaaGreatDoor
