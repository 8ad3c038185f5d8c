/-
  The reference's stmt and block, walked.
-/
import Derived.Test.YtdckddkalgnlpaaGreatDoorA25
import Derived.Test.YtdckddkalgnlpaaGreatDoorA23
import Derived.Test.YtdckddkalgnlpaaGreatDoorA26
namespace Go.Proofs.YtdckddkalgnlpaaGreatDoor
open Go.RowKit Go.Maps Pw
def RB (L : List Lex.Tok) (n tbk tc P m : Nat) : Prop := ∀ k b w, RS L n tbk tc P k b w → n - k ≤ m → Calls Tryz.prog 67 #[.pointer (some ⟨P, 0, none⟩)] w (RQ L n tbk tc P k b (fun f ts => Pa.pB f ts) SlS w)
def RST (L : List Lex.Tok) (n tbk tc P m : Nat) : Prop := ∀ k b w, RS L n tbk tc P k b w → n - k ≤ m → Calls Tryz.prog 120 #[.pointer (some ⟨P, 0, none⟩)] w (RQ L n tbk tc P k b (fun f ts => Pa.pS f ts) rdS w)
theorem pSo (f : Nat) (ts : Pa.Toks) : Pa.pS (f + 1) ts = Pa.opt [105, 102] (fun r => (Pa.pE f 0 r).bind fun e r => (Pa.pB f r).bind fun b r => Pa.opt [101, 108, 115, 101] (fun r => (Pa.pB f r).bind fun l r => .ok (.mk 3 ⟨#[]⟩ [e] b l) r) (fun r => .ok (.mk 3 ⟨#[]⟩ [e] b []) r) r)
 (Pa.opt [119, 104, 105, 108, 101] (fun r => (Pa.pE f 0 r).bind fun e r => (Pa.pB f r).bind fun b r => .ok (.mk 4 ⟨#[]⟩ [e] b []) r) fun r => (Pa.pSimple f r).bind fun s r => (Pa.expect [59] r).bind fun _ r => .ok s r) ts := by rw [Pa.pS]; rfl
theorem RX.strict {α : Type} {L : List Lex.Tok} {n tbk tc P k : Nat} {p : Nat → Pa.Toks → Pa.R α} {rd : World → Value → α → Prop} {X : α → Nat → Bool → Prop} {w w' : World} {e : Ending} (hL : Pa.TkL L n) (hg : Pa.Good (Pa.rest L n k)) (hs : ∀ f ts a r, Pa.Good ts → p f ts = .ok a r → r.length < ts.length) (h : RX L n tbk tc P k false p rd X w e w') : RX L n tbk tc P k false p rd (fun _ k' b' => b' = false → k < k') w e w' := by
 obtain ⟨a, v, k', b', h1, h2, h3, h4, hev, h5, _⟩ := h
 refine ⟨a, v, k', b', h1, h2, h3, h4, hev, h5, fun hb => ?_⟩
 subst hb
 obtain ⟨F, hF⟩ := hev
 have h6 := hs F _ a _ hg (hF F (Nat.le_refl _))
 rw [Pa.rest_len hL, Pa.rest_len hL] at h6
 omega
theorem sizeS_pos (s : Tr.S) : 1 ≤ Sy.sizeS s := by
 cases s with
 | mk k nm x b l => rw [Sy.sizeS]; omega
theorem pS_less (f : Nat) (ts : Pa.Toks) (a : Tr.S) (r : Pa.Toks) (hg : Pa.Good ts) (h : Pa.pS f ts = .ok a r) : r.length < ts.length := by
 have h1 := ((Pa.val_S f).1 ts hg).2 a r h
 have h2 := sizeS_pos a
 have h3 : Sy.sizeS a ≤ ts.length - r.length := h1.2
 omega
theorem good_rest {L : List Lex.Tok} {n : Nat} (h : Pa.Good (Pa.rest L n 0)) (k : Nat) : Pa.Good (Pa.rest L n k) := by
 refine h.suf ?_
 unfold Pa.rest
 rw [List.drop_zero]
 exact (List.drop_suffix k _).map _
set_option maxRecDepth 100000 in
set_option maxHeartbeats 8000000 in
theorem stmtR_of {L : List Lex.Tok} {n tbk tc P m : Nat} (hL : Pa.TkL L n) (hB : ∀ k b w, RS L n tbk tc P k b w → n - k < m → Calls Tryz.prog 67 #[.pointer (some ⟨P, 0, none⟩)] w (RQ L n tbk tc P k b (fun f ts => Pa.pB f ts) SlS w)) : RST L n tbk tc P m := by
 intro k b w hp hk
 have HB_ := Lib.hid hB
 clear hB
 obtain ⟨w120, HW, C120⟩ := ((Cr.start hL hp (fun f ts => Pa.pS f ts)).spec pSo).boxR #[.int .i64 0, .string ⟨#[]⟩, .slice none 0 0, .slice none 0 0, .slice none 0 0] 94
 clear hL hp
 go_enter Tryz.func120, Tryz.ntmps120
 go_upto_region 1 with fail
 rw [← HW.out]
 clear HW
 go_wp2_with fail
 refine (C120.out.take ⟨#[105, 102]⟩ (by decide)).mono ?_
 rintro e w121 (⟨rfl, hlt122, -, C121⟩ | ⟨rfl, C121⟩)
 ·clear C120
  go_wp2_with fail
  refine (C121.out.callE (exprR_any C121.out.hL _ _ _ C121.out.ps)).mono ?_
  rintro e w123 ⟨x1, p1, N1, c1, k1, b1, rfl, hlt1, hn1, -, C123⟩
  clear C121
  obtain ⟨G, w124, HX124, HW124, hx124, C124⟩ := C123.out.boxE #[.int .i64 x1.kind, .int .i64 x1.op, .int .i64 x1.int, .string x1.name, .bool x1.at_, .slice p1 N1 c1] 33
  obtain ⟨X, w125, HX125, HW125, hx125, C125⟩ := C124.out.boxE #[.int .i64 3, .string ⟨#[]⟩, .slice (some ⟨G, 0, none⟩) 1 1, .slice none 0 0, .slice none 0 0] 94
  have HY125 : Hid (X = G + 1) := Lib.hid (by rw [HX125.out, HW124.out, HX124.out]; simp)
  go_upto_region 3 with fail
  rw [← HX124.out, ← HW124.out, ← HY125.out, ← HW125.out]
  clear HX124 HW124 C123 HY125 HX125 HW125 C124
  go_wp2_with fail
  refine (C125.out.callB (HB_.out _ _ _ C125.out.ps (by omega))).mono ?_
  rintro e w126 ⟨b2l, p2, N2, c2, k2, b2, rfl, hlt2, hn2, -, C126⟩
  clear C125
  obtain ⟨l0, c00, f00, c01, f01, c02, f02, c03, f03, c04, f04⟩ := cells5 (C126.out.m.b 0 rfl)
  obtain ⟨w127, HW⟩ : ∃ q, Hid (q = (w126.setCell ⟨X, 3, none⟩ (.slice p2 N2 c2))) := ⟨_, Lib.hid rfl⟩
  have C127 := Lib.hid (C126.out.mm (W' := w127) (C126.out.m.set 0 rfl (by rw [HW.out]; exact gr_set w126 X 3 (.slice p2 N2 c2)) (by rw [HW.out]; exact (heap_set (j := 3) (.slice p2 N2 c2) (C126.out.m.b 0 rfl)))))
  go_upto_region 4 with fail
  rw [← HW.out]
  clear HW C126 l0 c00 f00 c01 f01 c02 f02 c03 f03 c04 f04
  have C128 := Lib.hid (C127.out.nrm (bs' := [(X, #[.int .i64 3, .string ⟨#[]⟩, .slice (some ⟨G, 0, none⟩) 1 1, .slice p2 N2 c2, .slice none 0 0], 94), _, _]) rfl)
  clear C127
  go_wp2_with fail
  refine (C128.out.take ⟨#[101, 108, 115, 101]⟩ (by decide)).mono ?_
  rintro e w129 (⟨rfl, hlt130, -, C129⟩ | ⟨rfl, C129⟩)
  ·clear C128
   go_wp2_with fail
   refine (C129.out.callB (HB_.out _ _ _ C129.out.ps (by omega))).mono ?_
   rintro e w131 ⟨b3l, p3, N3, c3, k3, b3, rfl, hlt3, hn3, -, C131⟩
   clear C129
   obtain ⟨l0, c00, f00, c01, f01, c02, f02, c03, f03, c04, f04⟩ := cells5 (C131.out.m.b 0 rfl)
   obtain ⟨w132, HW⟩ : ∃ q, Hid (q = (w131.setCell ⟨X, 4, none⟩ (.slice p3 N3 c3))) := ⟨_, Lib.hid rfl⟩
   have C132 := Lib.hid (C131.out.mm (W' := w132) (C131.out.m.set 0 rfl (by rw [HW.out]; exact gr_set w131 X 4 (.slice p3 N3 c3)) (by rw [HW.out]; exact (heap_set (j := 4) (.slice p3 N3 c3) (C131.out.m.b 0 rfl)))))
   go_upto_region 6 with fail
   rw [← HW.out]
   clear HW C131 l0 c00 f00 c01 f01 c02 f02 c03 f03 c04 f04
   have C133 := Lib.hid (C132.out.nrm (bs' := [(X, #[.int .i64 3, .string ⟨#[]⟩, .slice (some ⟨G, 0, none⟩) 1 1, .slice p2 N2 c2, .slice p3 N3 c3], 94), _, _]) rfl)
   clear C132
   obtain ⟨l0, c00, f00, c01, f01, c02, f02, c03, f03, c04, f04⟩ := cells5 (C133.out.m.b 0 rfl)
   obtain ⟨l2, c20, f20, c21, f21, c22, f22, c23, f23, c24, f24⟩ := cells5 (C133.out.m.b 2 rfl)
   go_wp2_with fail
   exact C133.out.retS (x := .mk 3 ⟨#[]⟩ [x1] b2l b3l) 2 rfl trivial Tryz.results120 rfl rfl (fun U b o => ⟨bd_stmt (k := 3) (by decide) size_nil, slE_blk1 (b 1 (by decide) rfl) (o 2 rfl).1 (o 2 rfl).2, o 1 rfl, o 0 rfl⟩)
  ·clear C128
   obtain ⟨l0, c00, f00, c01, f01, c02, f02, c03, f03, c04, f04⟩ := cells5 (C129.out.m.b 0 rfl)
   obtain ⟨l2, c20, f20, c21, f21, c22, f22, c23, f23, c24, f24⟩ := cells5 (C129.out.m.b 2 rfl)
   go_wp2_with fail
   exact C129.out.retS (x := .mk 3 ⟨#[]⟩ [x1] b2l []) 2 rfl trivial Tryz.results120 rfl rfl (fun U b o => ⟨bd_stmt (k := 3) (by decide) size_nil, slE_blk1 (b 1 (by decide) rfl) (o 1 rfl).1 (o 1 rfl).2, o 0 rfl, .nil none 0⟩)
 ·clear C120
  go_wp2_with fail
  refine (C121.out.take ⟨#[119, 104, 105, 108, 101]⟩ (by decide)).mono ?_
  rintro e w134 (⟨rfl, hlt135, -, C134⟩ | ⟨rfl, C134⟩)
  ·clear C121
   go_wp2_with fail
   refine (C134.out.callE (exprR_any C134.out.hL _ _ _ C134.out.ps)).mono ?_
   rintro e w136 ⟨x1, p1, N1, c1, k1, b1, rfl, hlt1, hn1, -, C136⟩
   clear C134
   obtain ⟨G, w137, HX137, HW137, hx137, C137⟩ := C136.out.boxE #[.int .i64 x1.kind, .int .i64 x1.op, .int .i64 x1.int, .string x1.name, .bool x1.at_, .slice p1 N1 c1] 33
   obtain ⟨X, w138, HX138, HW138, hx138, C138⟩ := C137.out.boxE #[.int .i64 4, .string ⟨#[]⟩, .slice (some ⟨G, 0, none⟩) 1 1, .slice none 0 0, .slice none 0 0] 94
   have HY138 : Hid (X = G + 1) := Lib.hid (by rw [HX138.out, HW137.out, HX137.out]; simp)
   go_upto_region 9 with fail
   rw [← HX137.out, ← HW137.out, ← HY138.out, ← HW138.out]
   clear HX137 HW137 C136 HY138 HX138 HW138 C137
   go_wp2_with fail
   refine (C138.out.callB (HB_.out _ _ _ C138.out.ps (by omega))).mono ?_
   rintro e w139 ⟨b2l, p2, N2, c2, k2, b2, rfl, hlt2, hn2, -, C139⟩
   clear C138
   obtain ⟨l0, c00, f00, c01, f01, c02, f02, c03, f03, c04, f04⟩ := cells5 (C139.out.m.b 0 rfl)
   obtain ⟨w140, HW⟩ : ∃ q, Hid (q = (w139.setCell ⟨X, 3, none⟩ (.slice p2 N2 c2))) := ⟨_, Lib.hid rfl⟩
   have C140 := Lib.hid (C139.out.mm (W' := w140) (C139.out.m.set 0 rfl (by rw [HW.out]; exact gr_set w139 X 3 (.slice p2 N2 c2)) (by rw [HW.out]; exact (heap_set (j := 3) (.slice p2 N2 c2) (C139.out.m.b 0 rfl)))))
   go_upto_region 10 with fail
   rw [← HW.out]
   clear HW C139 l0 c00 f00 c01 f01 c02 f02 c03 f03 c04 f04
   have C141 := Lib.hid (C140.out.nrm (bs' := [(X, #[.int .i64 4, .string ⟨#[]⟩, .slice (some ⟨G, 0, none⟩) 1 1, .slice p2 N2 c2, .slice none 0 0], 94), _, _]) rfl)
   clear C140
   obtain ⟨l0, c00, f00, c01, f01, c02, f02, c03, f03, c04, f04⟩ := cells5 (C141.out.m.b 0 rfl)
   obtain ⟨l2, c20, f20, c21, f21, c22, f22, c23, f23, c24, f24⟩ := cells5 (C141.out.m.b 2 rfl)
   go_wp2_with fail
   exact C141.out.retS (x := .mk 4 ⟨#[]⟩ [x1] b2l []) 2 rfl trivial Tryz.results120 rfl rfl (fun U b o => ⟨bd_stmt (k := 4) (by decide) size_nil, slE_blk1 (b 1 (by decide) rfl) (o 1 rfl).1 (o 1 rfl).2, o 0 rfl, .nil none 0⟩)
  ·clear C121
   go_wp2_with fail
   refine (C134.out.callS (simpleR_any C134.out.hL _ _ _ C134.out.ps)).mono ?_
   rintro e w142 ⟨s1, px1, Nx1, cx1, py1, Ny1, cy1, pz1, Nz1, cz1, k1, b1, rfl, hlt1, hn1, -, C142⟩
   clear C134
   obtain ⟨X, w143, HX, HW, hx143, C143⟩ := C142.out.boxE #[.int .i64 s1.kind, .string s1.name, .slice px1 Nx1 cx1, .slice py1 Ny1 cy1, .slice pz1 Nz1 cz1] 94
   go_upto_region 12 with fail
   rw [← HX.out, ← HW.out]
   clear HX HW C142
   go_wp2_with fail
   refine (C143.out.exp ⟨#[59]⟩ (by decide)).mono ?_
   rintro e w145 ⟨k144, b144, rfl, hle144, hn144, -, C145⟩
   clear C143
   obtain ⟨l0, c00, f00, c01, f01, c02, f02, c03, f03, c04, f04⟩ := cells5 (C145.out.m.b 0 rfl)
   obtain ⟨l1, c10, f10, c11, f11, c12, f12, c13, f13, c14, f14⟩ := cells5 (C145.out.m.b 1 rfl)
   go_wp2_with fail
   exact C145.out.retS (x := s1) 1 rfl trivial Tryz.results120 rfl rfl (fun U b o => o 0 rfl)
set_option maxRecDepth 100000 in
set_option maxHeartbeats 8000000 in
theorem blockR_of {L : List Lex.Tok} {n tbk tc P m : Nat} (hL : Pa.TkL L n) (hg : Pa.Good (Pa.rest L n 0)) (hS : RST L n tbk tc P m) : RB L n tbk tc P m := by
 intro k b w hp hk
 have HS := Lib.hid hS
 have HG := Lib.hid hg
 obtain ⟨w146, HW, C146⟩ := ((Cr.start hL hp (fun f ts => Pa.pB f ts)).spec pB_s).boxR #[] 94
 have D146 := Lib.hid (C146.out.emp tkS)
 clear hL hp hS hg C146
 go_enter Tryz.func67, Tryz.ntmps67
 go_upto_region 2 with fail
 rw [← HW.out]
 clear HW
 go_wp2_with fail
 refine (D146.out.exp ⟨#[123]⟩ (by decide)).mono ?_
 rintro e w148 ⟨k147, b147, rfl, hle147, hn147, -, C148⟩
 clear D146
 go_wp2_with fail
 go_loopg [3] (2 * (n - k147) + (if b147 then 0 else 1)) (fun gg s3 wr => ∃ (k' : Nat) (b' : Bool) (p : Option Addr) (N c : Nat) (tr : List ST), gg = 2 * (n - k') + (if b' then 0 else 1) ∧ s3 = .slice p N c ∧ k ≤ k' ∧ k' ≤ n ∧ Hid (b' = false → tr.length ≤ k') ∧ Hid (tr.length ≤ k' + 1) ∧ Hid (Cr L n tbk tc P k w (fun f => Pa.mv b (fun f ts => Pa.pB f ts) (Pa.rest L n k) f) k' b' [] [imR tkS w.heap.size (.slice p N c) tr] (fun f ts => Pa.pSs f (tr.map Prod.fst) ts) wr))
 case atStart => exact ⟨k147, b147, _, _, _, [], rfl, rfl, by omega, by omega, Lib.hid (fun _ => Nat.zero_le _), Lib.hid (Nat.zero_le _), C148⟩
 case round =>
  clear C148
  obtain ⟨k', b', p, N, c, tr, rfl, rfl, hltk, hnk, HLN, HLM, CR⟩ := hrel
  cases b' with
  | true =>
    have p2 := cell_of_blkP CR.out.ps.blk (j := 2) (u := .bool true) rfl
    go_wp2_with fail
    go_ret
    exact CR.out.dead.fin (a := tr.map Prod.fst) trivial (CR.out.m.vo 0 rfl)
  | false =>
    have C149 := Lib.hid (CR.out.spec (pSso _))
    clear CR
    have p2 := cell_of_blkP C149.out.ps.blk (j := 2) (u := .bool false) rfl
    go_wp2_with fail
    refine (C149.out.take ⟨#[125]⟩ (by decide)).mono ?_
    rintro e w150 (⟨rfl, hlt151, -, C150⟩ | ⟨rfl, C150⟩)
    ·clear C149
     go_wp2_with fail
     go_ret
     exact C150.out.fin (a := tr.map Prod.fst) trivial (C150.out.m.vo 0 rfl)
    ·clear C149
     go_wp2_with fail
     refine (C150.out.callS ((HS.out _ _ _ C150.out.ps (by omega)).mono fun _ _ h => h.strict C150.out.hL (good_rest HG.out _) pS_less)).mono ?_
     rintro e w152 ⟨s1, px1, Nx1, cx1, py1, Ny1, cy1, pz1, Nz1, cz1, k1, b1, rfl, hlt1, hn1, HXX, C152⟩
     clear C150
     obtain ⟨X153, w153, HX, HW, hx153, C153⟩ := C152.out.boxE #[.int .i64 s1.kind, .string s1.name, .slice px1 Nx1 cx1, .slice py1 Ny1 cy1, .slice pz1 Nz1 cz1] 94
     clear C152
     go_wp2_with (at_builtin; rw [← HX.out, ← HW.out]; refine C153.out.pushW tkS (x := ((s1, .slice px1 Nx1 cx1, .slice py1 Ny1 cy1, .slice pz1 Nz1 cz1) : ST)) rfl (by have h1 := HLM.out; have h2 := C153.out.ps.few; omega) rfl _ _ rfl rfl rfl ?_; intro p9 N9 c9 w154 HN9 C154)
     clear HX HW C153 hx153
     have C155 := Lib.hid (C154.out.spc (fun f ts => by rw [← map_snoc (Prod.fst : ST → Tr.S) tr ((s1, .slice px1 Nx1 cx1, .slice py1 Ny1 cy1, .slice pz1 Nz1 cz1) : ST)]))
     clear C154
     have HL9 : Hid ((tr ++ [((s1, .slice px1 Nx1 cx1, .slice py1 Ny1 cy1, .slice pz1 Nz1 cz1) : ST)]).length ≤ k1 + 1) := Lib.hid (by have h1 := HLN.out (by simp); simp only [List.length_append, List.length_cons, List.length_nil]; omega)
     have HL8 : Hid (b1 = false → (tr ++ [((s1, .slice px1 Nx1 cx1, .slice py1 Ny1 cy1, .slice pz1 Nz1 cz1) : ST)]).length ≤ k1) := Lib.hid (by intro hb; have h1 := HLN.out (by simp); have h2 := HXX.out hb; simp only [List.length_append, List.length_cons, List.length_nil]; omega)
     go_roundg (2 * (n - k1) + (if b1 then 0 else 1))
     case measure => cases hb : b1 with
      | true => simp; omega
      | false => have h2 := HXX.out hb; simp; omega
     case rel => exact ⟨k1, b1, p9, N9, c9, _, rfl, rfl, by omega, by omega, HL8, HL9, C155⟩
theorem rball {L : List Lex.Tok} {n tbk tc P : Nat} (hL : Pa.TkL L n) (hg : Pa.Good (Pa.rest L n 0)) : ∀ m, RB L n tbk tc P m
 | m => by
   have ih : ∀ m', m' < m → RB L n tbk tc P m' := fun m' _ => rball hL hg m'
   exact blockR_of hL hg (stmtR_of hL (fun k b w hp hk => ih _ hk k b w hp (Nat.le_refl _)))
 termination_by m => m
theorem blockR_any {L : List Lex.Tok} {n tbk tc P : Nat} (hL : Pa.TkL L n) (hg : Pa.Good (Pa.rest L n 0)) (k : Nat) (b : Bool) (w : World) (hp : RS L n tbk tc P k b w) : Calls Tryz.prog 67 #[.pointer (some ⟨P, 0, none⟩)] w (RQ L n tbk tc P k b (fun f ts => Pa.pB f ts) SlS w) := rball hL hg (n - k) k b w hp (Nat.le_refl _)
end Go.Proofs.YtdckddkalgnlpaaGreatDoor
