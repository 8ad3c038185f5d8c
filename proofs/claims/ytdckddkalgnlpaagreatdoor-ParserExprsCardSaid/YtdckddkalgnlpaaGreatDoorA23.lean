/-
  Several texts in one: PbStmt, PbClass.
-/
import Derived.Test.YtdckddkalgnlpaaGreatDoorA22
namespace Go.Proofs.YtdckddkalgnlpaaGreatDoor
open Go.RowKit Go.Maps Pw
def BC (L : List Lex.Tok) (n tbk tc P m : Nat) : Prop := ∀ k w, PS L n tbk tc P k w → n - k ≤ m → Calls Tryz.prog 111 #[.pointer (some ⟨P, 0, none⟩)] w (PQ L n tbk tc P k (fun f ts => Pa.pB f ts) SlS w)
def SC (L : List Lex.Tok) (n tbk tc P m : Nat) : Prop := ∀ k w, PS L n tbk tc P k w → n - k ≤ m → Calls Tryz.prog 155 #[.pointer (some ⟨P, 0, none⟩)] w (PQ L n tbk tc P k (fun f ts => Pa.pS f ts) rdS w)
theorem pS_br {ts : Pa.Toks} (h : Pa.is [105, 102] ts = true ∨ Pa.is [119, 104, 105, 108, 101] ts = true) (f : Nat) : Pa.pS (f + 1) ts = Pa.opt [119, 104, 105, 108, 101] (fun r => (Pa.pE f 0 r).bind fun e r => (Pa.pB f r).bind fun b r => .ok (.mk 4 ⟨#[]⟩ [e] b []) r)
 (fun r => (Pa.expect [105, 102] r).bind fun _ r => (Pa.pE f 0 r).bind fun e r => (Pa.pB f r).bind fun b r => Pa.opt [101, 108, 115, 101] (fun r => (Pa.pB f r).bind fun l r => .ok (.mk 3 ⟨#[]⟩ [e] b l) r) (fun r => .ok (.mk 3 ⟨#[]⟩ [e] b []) r) r) ts := by
 rw [Pa.pS]
 unfold Pa.opt Pa.expect
 cases hw : Pa.is [119, 104, 105, 108, 101] ts with
 | true =>
   rw [is_excl (t := [105, 102]) hw (by decide)]
   rfl
 | false =>
   rcases h with h | h
   ·dsimp only
    rw [h]
    rfl
   ·rw [hw] at h; cases h
theorem pS_no {ts : Pa.Toks} (h : Pa.is [105, 102] ts = false) (h2 : Pa.is [119, 104, 105, 108, 101] ts = false) (f : Nat) : Pa.pS (f + 1) ts = (Pa.pSimple f ts).bind fun s r => (Pa.expect [59] r).bind fun _ r => .ok s r := by
 rw [Pa.pS, h, h2]
 rfl
theorem pB_s (f : Nat) (ts : Pa.Toks) : Pa.pB (f + 1) ts = (Pa.expect [123] ts).bind fun _ r => Pa.pSs f [] r := by rw [Pa.pB]
theorem pSso (l : List Tr.S) (f : Nat) (ts : Pa.Toks) : Pa.pSs (f + 1) l ts = Pa.opt [125] (fun r => .ok l r) (fun r => (Pa.pS f r).bind fun s r => Pa.pSs f (l ++ [s]) r) ts := by rw [Pa.pSs]; rfl
set_option maxRecDepth 100000 in
set_option maxHeartbeats 8000000 in
theorem branch_of {L : List Lex.Tok} {n tbk tc P m : Nat} (hL : Pa.TkL L n) (hB : ∀ m', m' < m → BC L n tbk tc P m') : ∀ k w, PS L n tbk tc P k w → n - k ≤ m → Pa.is [105, 102] (Pa.rest L n k) = true ∨ Pa.is [119, 104, 105, 108, 101] (Pa.rest L n k) = true → Calls Tryz.prog 176 #[.pointer (some ⟨P, 0, none⟩)] w (PQ L n tbk tc P k (fun f ts => Pa.pS f ts) rdS w) := by
 intro k w hp hk hi
 have HBB := Lib.hid hB
 obtain ⟨w79, HW, C79⟩ := ((Cx.start hL hp (fun f ts => Pa.pS f ts)).at_ (pS_br hi)).boxR #[.int .i64 0, .string ⟨#[]⟩, .slice none 0 0, .slice none 0 0, .slice none 0 0] 94
 clear hL hp
 go_enter Tryz.func176, Tryz.ntmps176
 go_upto_region 1 with fail
 rw [← HW.out]
 clear HW
 clear hB hi
 go_wp2_with fail
 refine (C79.out.take ⟨#[119, 104, 105, 108, 101]⟩ (by decide)).mono ?_
 rintro e w80 (⟨rfl, hlt81, C80⟩ | ⟨rfl, C80⟩)
 ·clear C79
  go_wp2_with fail
  refine (C80.out.callE (pexpr_any C80.out.hL _ _ C80.out.ps)).mono ?_
  rintro e w82 (⟨x1, p1, N1, c1, k1, rfl, hlt1, hn1, C82⟩ | ⟨t, rfl, HB⟩)
  ·clear C80
   obtain ⟨X, w83, HX, HW, hx83, C83⟩ := C82.out.boxE #[.int .i64 x1.kind, .int .i64 x1.op, .int .i64 x1.int, .string x1.name, .bool x1.at_, .slice p1 N1 c1] 33
   go_wp2_with fail
   rw [← HX.out, ← HW.out]
   clear HX HW C82
   refine (C83.out.callB (HBB.out (n - k1) (by omega) _ _ C83.out.ps (Nat.le_refl _))).mono ?_
   rintro e w84 (⟨b2, p2, N2, c2, k2, rfl, hlt2, hn2, C84⟩ | ⟨t, rfl, HB⟩)
   ·clear C83
    obtain ⟨l1, c10, f10, c11, f11, c12, f12, c13, f13, c14, f14⟩ := cells5 (C84.out.m.b 1 rfl)
    go_wp2_with fail
    exact C84.out.retS (x := .mk 4 ⟨#[]⟩ [x1] b2 []) 1 rfl (by omega) Tryz.results176 rfl rfl (fun U b o => ⟨bd_stmt (k := 4) (by decide) size_nil, slE_blk1 (b 0 (by decide) rfl) (o 1 rfl).1 (o 1 rfl).2, o 0 rfl, .nil none 0⟩)
   ·go_wp2_with fail
    exact ⟨rfl, HB.out.pq⟩
  ·go_wp2_with fail
   exact ⟨rfl, HB.out.pq⟩
 ·clear C79
  go_wp2_with fail
  refine (C80.out.exp ⟨#[105, 102]⟩ (by decide)).mono ?_
  rintro e w86 (⟨rfl, hlt85, C86⟩ | ⟨t, rfl, HB⟩)
  ·clear C80
   go_wp2_with fail
   refine (C86.out.callE (pexpr_any C86.out.hL _ _ C86.out.ps)).mono ?_
   rintro e w87 (⟨x1, p1, N1, c1, k1, rfl, hlt1, hn1, C87⟩ | ⟨t, rfl, HB⟩)
   ·clear C86
    obtain ⟨X, w88, HX, HW, hx88, C88⟩ := C87.out.boxE #[.int .i64 x1.kind, .int .i64 x1.op, .int .i64 x1.int, .string x1.name, .bool x1.at_, .slice p1 N1 c1] 33
    go_wp2_with fail
    rw [← HX.out, ← HW.out]
    clear HX HW C87
    refine (C88.out.callB (HBB.out (n - k1) (by omega) _ _ C88.out.ps (Nat.le_refl _))).mono ?_
    rintro e w89 (⟨b2, p2, N2, c2, k2, rfl, hlt2, hn2, C89⟩ | ⟨t, rfl, HB⟩)
    ·clear C88
     obtain ⟨SB, w90, HX, HW, hx90, C90⟩ := C89.out.boxE #[.int .i64 3, .string ⟨#[]⟩, .slice (some ⟨X, 0, none⟩) 1 1, .slice p2 N2 c2, .slice none 0 0] 94
     go_upto_region 5 with fail
     rw [← HX.out, ← HW.out]
     clear HX HW C89
     go_wp2_with fail
     refine (C90.out.take ⟨#[101, 108, 115, 101]⟩ (by decide)).mono ?_
     rintro e w91 (⟨rfl, hlt92, C91⟩ | ⟨rfl, C91⟩)
     ·clear C90
      go_wp2_with fail
      refine (C91.out.callB (HBB.out (n - (k2 + 1)) (by omega) _ _ C91.out.ps (Nat.le_refl _))).mono ?_
      rintro e w93 (⟨b3, p3, N3, c3, k3, rfl, hlt3, hn3, C93⟩ | ⟨t, rfl, HB⟩)
      ·clear C91
       obtain ⟨l0, c00, f00, c01, f01, c02, f02, c03, f03, c04, f04⟩ := cells5 (C93.out.m.b 0 rfl)
       obtain ⟨w94, HW⟩ : ∃ q, Hid (q = (w93.setCell ⟨SB, 4, none⟩ (.slice p3 N3 c3))) := ⟨_, Lib.hid rfl⟩
       have C94 := Lib.hid (C93.out.mm (W' := w94) (C93.out.m.set 0 rfl (by rw [HW.out]; exact gr_set w93 SB 4 (.slice p3 N3 c3)) (by rw [HW.out]; exact (heap_set (j := 4) (.slice p3 N3 c3) (C93.out.m.b 0 rfl)))))
       go_upto_region 7 with fail
       rw [← HW.out]
       clear HW C93 l0 c00 f00 c01 f01 c02 f02 c03 f03 c04 f04
       obtain ⟨l0, c00, f00, c01, f01, c02, f02, c03, f03, c04, f04⟩ := cells5 (C94.out.m.b 0 rfl)
       obtain ⟨l2, c20, f20, c21, f21, c22, f22, c23, f23, c24, f24⟩ := cells5 (C94.out.m.b 2 rfl)
       go_wp2_with fail
       exact C94.out.retS (x := .mk 3 ⟨#[]⟩ [x1] b2 b3) 2 rfl (by omega) Tryz.results176 rfl rfl (fun U b o => ⟨bd_stmt (k := 3) (by decide) size_nil, slE_blk1 (b 1 (by decide) rfl) (o 2 rfl).1 (o 2 rfl).2, o 1 rfl, o 0 rfl⟩)
      ·go_wp2_with fail
       exact ⟨rfl, HB.out.pq⟩
     ·clear C90
      obtain ⟨l0, c00, f00, c01, f01, c02, f02, c03, f03, c04, f04⟩ := cells5 (C91.out.m.b 0 rfl)
      obtain ⟨l2, c20, f20, c21, f21, c22, f22, c23, f23, c24, f24⟩ := cells5 (C91.out.m.b 2 rfl)
      go_wp2_with fail
      exact C91.out.retS (x := .mk 3 ⟨#[]⟩ [x1] b2 []) 2 rfl (by omega) Tryz.results176 rfl rfl (fun U b o => ⟨bd_stmt (k := 3) (by decide) size_nil, slE_blk1 (b 1 (by decide) rfl) (o 1 rfl).1 (o 1 rfl).2, o 0 rfl, .nil none 0⟩)
    ·go_wp2_with fail
     exact ⟨rfl, HB.out.pq⟩
   ·go_wp2_with fail
    exact ⟨rfl, HB.out.pq⟩
  ·go_wp2_with fail
   exact ⟨rfl, HB.out.pq⟩
set_option maxRecDepth 100000 in
set_option maxHeartbeats 8000000 in
theorem pstmt_of {L : List Lex.Tok} {n tbk tc P m : Nat} (hL : Pa.TkL L n) (hq : NoEq L) (hB : ∀ m', m' < m → BC L n tbk tc P m') : SC L n tbk tc P m := by
 intro k w hp hk
 have HBR := Lib.hid (branch_of hL hB)
 have HQ := Lib.hid hq
 obtain ⟨w95, HW, C95⟩ := (Cx.start hL hp (fun f ts => Pa.pS f ts)).boxR #[.int .i64 0, .string ⟨#[]⟩, .slice none 0 0, .slice none 0 0, .slice none 0 0] 94
 clear hL hp
 go_enter Tryz.func155, Tryz.ntmps155
 go_upto_region 1 with fail
 rw [← HW.out]
 clear HW
 clear hB hq
 go_wp2_with fail
 refine (C95.out.is ⟨#[105, 102]⟩ (by decide)).mono ?_
 rintro e w97 (⟨rfl, HI96, C97⟩ | ⟨rfl, HI96, C97⟩)
 ·clear C95
  have C98 := Lib.hid (C97.out.spc (G' := fun f ts => (Pa.pS f ts).bind fun s r => .ok s r) (fun f ts => Pa.R.eta _))
  clear C97
  go_wp2_with fail
  refine (C98.out.callS (HBR.out _ _ C98.out.ps hk (.inl HI96.out))).mono ?_
  rintro e w99 (⟨s1, px1, Nx1, cx1, py1, Ny1, cy1, pz1, Nz1, cz1, k1, rfl, hlt1, hn1, C99⟩ | ⟨t, rfl, HB⟩)
  ·clear C98
   obtain ⟨l0, c00, f00, c01, f01, c02, f02, c03, f03, c04, f04⟩ := cells5 (C99.out.m.b 0 rfl)
   go_wp2_with fail
   exact C99.out.retS (x := s1) 0 rfl (by omega) Tryz.results155 rfl rfl (fun U b o => o 0 rfl)
  ·go_wp2_with fail
   exact ⟨rfl, HB.out.pq⟩
 ·clear C95
  go_wp2_with fail
  refine (C97.out.is ⟨#[119, 104, 105, 108, 101]⟩ (by decide)).mono ?_
  rintro e w101 (⟨rfl, HI100, C101⟩ | ⟨rfl, HI100, C101⟩)
  ·clear C97
   have C102 := Lib.hid (C101.out.spc (G' := fun f ts => (Pa.pS f ts).bind fun s r => .ok s r) (fun f ts => Pa.R.eta _))
   clear C101
   go_wp2_with fail
   refine (C102.out.callS (HBR.out _ _ C102.out.ps hk (.inr HI100.out))).mono ?_
   rintro e w103 (⟨s1, px1, Nx1, cx1, py1, Ny1, cy1, pz1, Nz1, cz1, k1, rfl, hlt1, hn1, C103⟩ | ⟨t, rfl, HB⟩)
   ·clear C102
    obtain ⟨l0, c00, f00, c01, f01, c02, f02, c03, f03, c04, f04⟩ := cells5 (C103.out.m.b 0 rfl)
    go_wp2_with fail
    exact C103.out.retS (x := s1) 0 rfl (by omega) Tryz.results155 rfl rfl (fun U b o => o 0 rfl)
   ·go_wp2_with fail
    exact ⟨rfl, HB.out.pq⟩
  ·clear C97
   have C104 := Lib.hid (C101.out.at_ (G' := fun f ts => (Pa.pSimple f ts).bind fun s r => (Pa.expect [59] r).bind fun _ r => .ok s r) (pS_no HI96.out HI100.out))
   clear C101
   go_wp2_with fail
   refine (C104.out.callS (psimple_any C104.out.hL HQ.out _ _ C104.out.ps)).mono ?_
   rintro e w105 (⟨s1, px1, Nx1, cx1, py1, Ny1, cy1, pz1, Nz1, cz1, k1, rfl, hlt1, hn1, C105⟩ | ⟨t, rfl, HB⟩)
   ·clear C104
    obtain ⟨X, w106, HX, HW, hx106, C106⟩ := C105.out.boxE #[.int .i64 s1.kind, .string s1.name, .slice px1 Nx1 cx1, .slice py1 Ny1 cy1, .slice pz1 Nz1 cz1] 94
    go_upto_region 5 with fail
    rw [← HX.out, ← HW.out]
    clear HX HW C105
    go_wp2_with fail
    refine (C106.out.exp ⟨#[59]⟩ (by decide)).mono ?_
    rintro e w108 (⟨rfl, hlt107, C108⟩ | ⟨t, rfl, HB⟩)
    ·clear C106
     obtain ⟨l0, c00, f00, c01, f01, c02, f02, c03, f03, c04, f04⟩ := cells5 (C108.out.m.b 0 rfl)
     obtain ⟨l1, c10, f10, c11, f11, c12, f12, c13, f13, c14, f14⟩ := cells5 (C108.out.m.b 1 rfl)
     go_wp2_with fail
     exact C108.out.retS (x := s1) 1 rfl (by omega) Tryz.results155 rfl rfl (fun U b o => o 0 rfl)
    ·go_wp2_with fail
     exact ⟨rfl, HB.out.pq⟩
   ·go_wp2_with fail
    exact ⟨rfl, HB.out.pq⟩
set_option maxRecDepth 100000 in
set_option maxHeartbeats 8000000 in
theorem block_of {L : List Lex.Tok} {n tbk tc P m : Nat} (hL : Pa.TkL L n) (hS : ∀ m', m' < m → SC L n tbk tc P m') : BC L n tbk tc P m := by
 intro k w hp hk
 have HS := Lib.hid hS
 have C109 := Lib.hid (((Cx.start hL hp (fun f ts => Pa.pB f ts)).spec pB_s).nilR tkS)
 clear hL hp hS
 go_enter Tryz.func111, Tryz.ntmps111
 go_upto_region 2 with fail
 go_wp2_with fail
 refine (C109.out.exp ⟨#[123]⟩ (by decide)).mono ?_
 rintro e w111 (⟨rfl, hlt110, C111⟩ | ⟨t, rfl, HB⟩)
 ·clear C109
  go_wp2_with fail
  go_loopg [3] (n - (k + 1)) (fun gg s3 wr => ∃ (k' : Nat) (p : Option Addr) (N c : Nat) (tr : List ST), gg = n - k' ∧ s3 = .slice p N c ∧ k < k' ∧ k' ≤ n ∧ Hid (tr.length ≤ k') ∧ Hid (Cx L n tbk tc P k w (fun f => Pa.pB f (Pa.rest L n k)) k' [] [imR tkS w.heap.size (.slice p N c) tr] (fun f ts => Pa.pSs f (tr.map Prod.fst) ts) wr))
  case atStart => exact ⟨k + 1, none, 0, 0, [], rfl, rfl, by omega, by omega, Lib.hid (Nat.zero_le _), C111⟩
  case round =>
   clear C111
   obtain ⟨k', p, N, c, tr, rfl, rfl, hltk, hnk, HLN, CR⟩ := hrel
   have C112 := Lib.hid (CR.out.spec (pSso _))
   clear CR
   go_wp2_with fail
   refine (C112.out.take ⟨#[125]⟩ (by decide)).mono ?_
   rintro e w113 (⟨rfl, hlt114, C113⟩ | ⟨rfl, C113⟩)
   ·clear C112
    go_wp2_with fail
    go_ret
    exact C113.out.finQ (by omega) (C113.out.m.vo 0 rfl)
   ·clear C112
    go_wp2_with fail
    refine (C113.out.callS (HS.out (n - k') (by omega) _ _ C113.out.ps (Nat.le_refl _))).mono ?_
    rintro e w115 (⟨s1, px1, Nx1, cx1, py1, Ny1, cy1, pz1, Nz1, cz1, k1, rfl, hlt1, hn1, C115⟩ | ⟨t, rfl, HB⟩)
    ·clear C113
     obtain ⟨X116, w116, HX, HW, hx116, C116⟩ := C115.out.boxE #[.int .i64 s1.kind, .string s1.name, .slice px1 Nx1 cx1, .slice py1 Ny1 cy1, .slice pz1 Nz1 cz1] 94
     clear C115
     go_wp2_with (at_builtin; rw [← HX.out, ← HW.out]; refine C116.out.pushW tkS rfl (by have h1 := HLN.out; have h2 := C116.out.hL.few; omega) rfl _ _ rfl rfl rfl ?_; intro p9 N9 c9 w117 HN9 C117)
     clear HX HW C116 hx116
     have C118 := Lib.hid (C117.out.spc (fun f ts => by rw [← map_snoc (Prod.fst : ST → Tr.S) tr ((s1, .slice px1 Nx1 cx1, .slice py1 Ny1 cy1, .slice pz1 Nz1 cz1) : ST)]))
     clear C117
     have HL9 : Hid ((tr ++ [((s1, .slice px1 Nx1 cx1, .slice py1 Ny1 cy1, .slice pz1 Nz1 cz1) : ST)]).length ≤ k1) := Lib.hid (by have h1 := HLN.out; simp only [List.length_append, List.length_cons, List.length_nil]; omega)
     go_roundg (n - k1)
     case measure => omega
     case rel => exact ⟨k1, p9, N9, c9, _, rfl, rfl, by omega, by omega, HL9, C118⟩
    ·go_wp2_with fail
     exact ⟨rfl, HB.out.pq⟩
 ·go_wp2_with fail
  exact ⟨rfl, HB.out.pq⟩
theorem stmts_any {L : List Lex.Tok} {n tbk tc P : Nat} (hL : Pa.TkL L n) (hq : NoEq L) (m : Nat) : SC L n tbk tc P m ∧ BC L n tbk tc P m := by
 induction m using Nat.strongRecOn with
 | _ m ih => exact ⟨pstmt_of hL hq (fun m' hm => (ih m' hm).2), block_of hL (fun m' hm => (ih m' hm).1)⟩
theorem pblock_any {L : List Lex.Tok} {n tbk tc P : Nat} (hL : Pa.TkL L n) (hq : NoEq L) (k : Nat) (w : World) (hp : PS L n tbk tc P k w) : Calls Tryz.prog 111 #[.pointer (some ⟨P, 0, none⟩)] w (PQ L n tbk tc P k (fun f ts => Pa.pB f ts) SlS w) := (stmts_any hL hq (n - k)).2 k w hp (Nat.le_refl _)
end Go.Proofs.YtdckddkalgnlpaaGreatDoor
namespace Go.Proofs.YtdckddkalgnlpaaGreatDoor
open Go.RowKit Go.Maps Pw
def Pa.clsRest (b : Bool) (nm : ByteArray) (fs : List ByteArray) (f : Nat) (r : Pa.Toks) : Pa.R Tr.C := (if b then Pa.pMs f [] r else .ok [] r).bind fun ms r => (Pa.expect [125] r).bind fun _ r => .ok ⟨nm, b, fs, ms⟩ r
def Pa.clsBody (b : Bool) (f : Nat) (r : Pa.Toks) : Pa.R Tr.C := (Pa.word 3 r).bind fun n r => (Pa.expect [123] r).bind fun _ r => (Pa.pFields f [] r).bind fun fs r => Pa.clsRest b n fs f r
theorem pC_at {L : List Lex.Tok} {n k : Nat} (hL : Pa.TkL L n) (hk : k ≤ n) (h : Pa.is [97, 99, 116, 111, 114] (Pa.rest L n k) = true ∨ Pa.is [114, 101, 99, 111, 114, 100] (Pa.rest L n k) = true) (f : Nat) : Pa.pC f (Pa.rest L n k) = Pa.clsBody (Pa.is [97, 99, 116, 111, 114] (Pa.rest L n k)) f (Pa.rest L n (k + 1)) := by
 unfold Pa.pC Pa.clsBody Pa.clsRest
 cases ha : Pa.is [97, 99, 116, 111, 114] (Pa.rest L n k) with
 | true =>
   rw [if_pos rfl, Pa.rest_tail hL (Pa.is_lt hk ha)]
   rfl
 | false =>
   have hr : Pa.is [114, 101, 99, 111, 114, 100] (Pa.rest L n k) = true := by
    rcases h with h | h
    ·rw [ha] at h; cases h
    ·exact h
   rw [if_neg (by decide), Pa.expect_at hL hk, hr, if_pos rfl]
   rfl
theorem pFieldso (l : List ByteArray) (f : Nat) (ts : Pa.Toks) : Pa.pFields (f + 1) l ts = Pa.opt [118, 97, 114] (fun r => (Pa.word 2 r).bind fun n r => (Pa.expect [59] r).bind fun _ r => Pa.pFields f (l ++ [n]) r) (fun r => .ok l r) ts := by rw [Pa.pFields]; rfl
theorem pMso (l : List Tr.M) (f : Nat) (ts : Pa.Toks) : Pa.pMs (f + 1) l ts = Pa.opt [111, 110] (fun r => (Pa.word 2 r).bind fun n r => (Pa.pParams f r).bind fun p r => (Pa.pB f r).bind fun b r => Pa.pMs f (l ++ [⟨n, p, b⟩]) r) (fun r => .ok l r) ts := by rw [Pa.pMs]; rfl
set_option maxRecDepth 100000 in
set_option maxHeartbeats 8000000 in
theorem pclass_any {L : List Lex.Tok} {n tbk tc P : Nat} (hL : Pa.TkL L n) (hq : NoEq L) (k : Nat) (w : World) (hp : PS L n tbk tc P k w) (hrec : Pa.is [97, 99, 116, 111, 114] (Pa.rest L n k) = true ∨ Pa.is [114, 101, 99, 111, 114, 100] (Pa.rest L n k) = true) : Calls Tryz.prog 60 #[.pointer (some ⟨P, 0, none⟩)] w (PQ L n tbk tc P k (fun f ts => Pa.pC f ts) rdC w) := by
 obtain ⟨b, hbb⟩ : ∃ q, Pa.is [97, 99, 116, 111, 114] (Pa.rest L n k) = q := ⟨_, rfl⟩
 have HBB := Lib.hid hbb
 have HREC := Lib.hid hrec
 have HQ := Lib.hid hq
 have hisk : k < n := by rcases hrec with h | h <;> exact Pa.is_lt hp.le h
 obtain ⟨w1, HW, C1⟩ := (Cx.start hL hp (fun f ts => Pa.pC f ts)).boxR #[.string ⟨#[]⟩, .bool false, .slice none 0 0, .slice none 0 0] 49
 clear hL hp
 go_enter Tryz.func60, Tryz.ntmps60
 go_upto_region 1 with fail
 rw [← HW.out]
 clear HW
 clear hbb hrec hq
 go_wp2_with fail
 refine (C1.out.isV ⟨#[97, 99, 116, 111, 114]⟩ (by decide) HBB.out).mono ?_
 rintro e w2 ⟨rfl, C2⟩
 clear C1
 obtain ⟨X, w3, HX, HW, hx3, C3⟩ := C2.out.boxE #[.string ⟨#[]⟩, .bool b, .slice none 0 0, .slice none 0 0] 49
 go_upto_region 2 with fail
 rw [← HX.out, ← HW.out]
 clear HX HW C2
 have p1 := cell_of_blkP C3.out.ps.blk (j := 1) (u := .int .i64 k) rfl
 have q1 := blk_free C3.out.ps.blk 1
 have hfew := C3.out.hL.few
 have hplt := C3.out.m.pw
 obtain ⟨w4, HW⟩ : ∃ q, Hid (q = w3.setCell ⟨P, 1, none⟩ (.int .i64 (↑k + 1))) := ⟨_, Lib.hid rfl⟩
 have C4 : Hid (Cx L n tbk tc P k w (fun f => Pa.pC f (Pa.rest L n k)) (k + 1) [(X, #[.string ⟨#[]⟩, .bool b, .slice none 0 0, .slice none 0 0], 49), (w.heap.size, #[.string ⟨#[]⟩, .bool false, .slice none 0 0, .slice none 0 0], 49)] [] (Pa.clsBody b) w4) := by
  rw [HW.out]
  exact C3.out.inc hisk (fun x hx => .cong (fun f => (pC_at C3.out.hL C3.out.le HREC.out f).trans (by rw [HBB.out])) hx)
 go_upto_region 3 with fail
 rw [← HW.out]
 clear HW p1 q1 hfew hplt C3
 have C5 := Lib.hid (C4.out.spc (G' := fun f ts => (Pa.word 3 ts).bind fun n r => (Pa.expect [123] r).bind fun _ r => (Pa.pFields f [] r).bind fun fs r => Pa.clsRest b n fs f r) (fun _ _ => rfl))
 clear C4
 go_wp2_with fail
 refine (C5.out.wrd).mono ?_
 rintro e w6 (⟨s1, rfl, hlt1, hsz1, C6⟩ | ⟨t, rfl, HB⟩)
 ·clear C5
  have HSZ := Lib.hid hsz1
  obtain ⟨l0, c00, f00, c01, f01, c02, f02, c03, f03⟩ := cells4 (C6.out.m.b 0 rfl)
  obtain ⟨w7, HW⟩ : ∃ q, Hid (q = (w6.setCell ⟨X, 0, none⟩ (.string s1))) := ⟨_, Lib.hid rfl⟩
  have C7 := Lib.hid (C6.out.mm (W' := w7) (C6.out.m.set 0 rfl (by rw [HW.out]; exact gr_set w6 X 0 (.string s1)) (by rw [HW.out]; exact (heap_set (j := 0) (.string s1) (C6.out.m.b 0 rfl)))))
  go_upto_region 4 with fail
  rw [← HW.out]
  clear HW C6 l0 c00 f00 c01 f01 c02 f02 c03 f03
  go_wp2_with fail
  refine (C7.out.exp ⟨#[123]⟩ (by decide)).mono ?_
  rintro e w9 (⟨rfl, hlt8, C9⟩ | ⟨t, rfl, HB⟩)
  ·clear C7
   obtain ⟨C10, hf⟩ := (C9.out.nilR tkN).foc
   have HF1 := Lib.hid hf
   have C11 := Lib.hid C10
   obtain ⟨BF, hBF⟩ : ∃ q, q = w9.heap.size := ⟨_, rfl⟩
   rw [← hBF] at C11
   clear C10 hf hBF C9
   go_wp2_with fail
   go_loopg [21] (n - (k + 1 + 1 + 1)) (fun gg s21 wr => ∃ (k' : Nat) (p : Option Addr) (N c : Nat) (tr : List ByteArray), gg = n - k' ∧ k + 1 + 1 < k' ∧ k' ≤ n ∧ Hid (tr.length ≤ k') ∧ Hid (Cx L n tbk tc P k w (fun f => Pa.pFields f [] (Pa.rest L n (k + 1 + 1 + 1))) k' [(X, #[.string s1, .bool b, .slice p N c, .slice none 0 0], 49), (w.heap.size, #[.string ⟨#[]⟩, .bool false, .slice none 0 0, .slice none 0 0], 49)] [imR tkN BF (.slice p N c) tr] (fun f ts => Pa.pFields f tr ts) wr))
   case atStart => exact ⟨k + 1 + 1 + 1, none, 0, 0, [], rfl, by omega, by omega, Lib.hid (Nat.zero_le _), C11⟩
   case round =>
    clear C11
    obtain ⟨k', p, N, c, tr, rfl, hltk, hnk, HLN, CR⟩ := hrel
    have C12 := Lib.hid (CR.out.spec (pFieldso _))
    clear CR
    go_wp2_with fail
    refine (C12.out.take ⟨#[118, 97, 114]⟩ (by decide)).mono ?_
    rintro e w13 (⟨rfl, hlt14, C13⟩ | ⟨rfl, C13⟩)
    ·clear C12
     have HLEN : tr.length ≤ 1000000 := by have h1 := HLN.out; have h2 := C13.out.hL.few; omega
     go_upto_region 6 with fail
     obtain ⟨w15, HW, C15⟩ := C13.out.drewE
     refine wp_region_held_drew (S := fun _ => True) (by kernel_rfl) trivial (fun _ => ?_)
     rw [← HW.out]
     clear HW C13
     refine rT 0 (some 23) ?_
     try simp only [Act.put, q0, q1, q2]
     refine rT 2 (some 25) ?_
     try simp only [Act.put, q0, q1, q2]
     refine rR2 1 (some 24) 3 (some 26) (fun K hK => ?_) (fun K hK => ?_)
     ·obtain ⟨l0, c00, f00, c01, f01, c02, f02, c03, f03⟩ := cells4 (C15.out.m.b 0 rfl)
      go_simp
      refine hK.out _ _ trivial (fun _ => ?_)
      clear hK K
      try simp only [Act.put, q0, q1, q2]
      clear l0 c00 f00 c01 f01 c02 f02 c03 f03
      refine rR1 3 (some 26) (fun K hK => ?_)
      go_simp
      refine (C15.out.name).mono ?_
      rintro e w16 (⟨s2, rfl, hlt2, hsz2, C16⟩ | ⟨t, rfl, HB⟩)
      ·clear C15
       go_wp2_with fail
       refine hK.out _ _ trivial (fun _ => ?_)
       clear hK K
       try simp only [Act.put, q0, q1, q2]
       have C17 := Lib.hid (C16.out.addN hsz2)
       clear C16
       refine rR1 4 (some 27) (fun K hK => ?_)
       obtain ⟨X18, w18, HX, HW, hx18, C18⟩ := C17.out.boxE #[.string s2] 9
       go_simp
       refine hK.out _ _ trivial (fun _ => ?_)
       clear hK K
       try simp only [Act.put, q0, q1, q2]
       rw [← HX.out, ← HW.out]
       clear HX HW C17
       refine rR1 5 (some 28) (fun K hK => ?_)
       refine C18.out.pushS tkN rfl HLEN (by rfl) _ _ (by rfl) (by rfl) (by rfl) ?_
       intro p9 N9 c9 w19 HN9 C19
       clear C18
       refine hK.out _ _ trivial (fun _ => ?_)
       clear hK K
       try simp only [Act.put, q0, q1, q2]
       refine rT 6 (some 29) ?_
       try simp only [Act.put, q0, q1, q2]
       refine rR1 7 none (fun K hK => ?_)
       obtain ⟨l0, c00, f00, c01, f01, c02, f02, c03, f03⟩ := cells4 (C19.out.m.b 0 rfl)
       obtain ⟨w20, HW⟩ : ∃ q, Hid (q = (w19.setCell ⟨X, 2, none⟩ (.slice p9 N9 c9))) := ⟨_, Lib.hid rfl⟩
       have C20 := Lib.hid (C19.out.mm (W' := w20) (C19.out.m.set 0 rfl (by rw [HW.out]; exact gr_set w19 X 2 (.slice p9 N9 c9)) (by rw [HW.out]; exact (heap_set (j := 2) (.slice p9 N9 c9) (C19.out.m.b 0 rfl)))))
       go_simp
       refine hK.out _ _ trivial (fun _ => ?_)
       clear hK K
       try simp only [Act.put, q0, q1, q2]
       refine wpAnyH_done (by kernel_rfl) ?_ _
       rw [← HW.out]
       clear HW C19 l0 c00 f00 c01 f01 c02 f02 c03 f03
       go_wp2_with fail
       refine (C20.out.exp ⟨#[59]⟩ (by decide)).mono ?_
       rintro e w22 (⟨rfl, hlt21, C22⟩ | ⟨t, rfl, HB⟩)
       ·clear C20
        go_wp2_with fail
        have HL9 : Hid ((tr ++ [s2]).length ≤ k' + 1 + 1 + 1) := Lib.hid (by have h1 := HLN.out; simp only [List.length_append, List.length_cons, List.length_nil]; omega)
        go_roundg (n - (k' + 1 + 1 + 1))
        case measure => omega
        case rel => exact ⟨k' + 1 + 1 + 1, p9, N9, c9, _, rfl, by omega, by omega, HL9, C22⟩
       ·go_wp2_with fail
        exact ⟨rfl, (HB.out.up HF1.out).pq⟩
      ·go_wp2_with fail
       exact ⟨rfl, (HB.out.up HF1.out).pq⟩
     ·go_simp
      refine (C15.out.name).mono ?_
      rintro e w23 (⟨s2, rfl, hlt2, hsz2, C23⟩ | ⟨t, rfl, HB⟩)
      ·clear C15
       go_wp2_with fail
       refine hK.out _ _ trivial (fun _ => ?_)
       clear hK K
       try simp only [Act.put, q0, q1, q2]
       have C24 := Lib.hid (C23.out.addN hsz2)
       clear C23
       refine rR2 1 (some 24) 4 (some 27) (fun K hK => ?_) (fun K hK => ?_)
       ·obtain ⟨l0, c00, f00, c01, f01, c02, f02, c03, f03⟩ := cells4 (C24.out.m.b 0 rfl)
        go_simp
        refine hK.out _ _ trivial (fun _ => ?_)
        clear hK K
        try simp only [Act.put, q0, q1, q2]
        clear l0 c00 f00 c01 f01 c02 f02 c03 f03
        refine rR1 4 (some 27) (fun K hK => ?_)
        obtain ⟨X25, w25, HX, HW, hx25, C25⟩ := C24.out.boxE #[.string s2] 9
        go_simp
        refine hK.out _ _ trivial (fun _ => ?_)
        clear hK K
        try simp only [Act.put, q0, q1, q2]
        rw [← HX.out, ← HW.out]
        clear HX HW C24
        refine rR1 5 (some 28) (fun K hK => ?_)
        refine C25.out.pushS tkN rfl HLEN (by rfl) _ _ (by rfl) (by rfl) (by rfl) ?_
        intro p9 N9 c9 w26 HN9 C26
        clear C25
        refine hK.out _ _ trivial (fun _ => ?_)
        clear hK K
        try simp only [Act.put, q0, q1, q2]
        refine rT 6 (some 29) ?_
        try simp only [Act.put, q0, q1, q2]
        refine rR1 7 none (fun K hK => ?_)
        obtain ⟨l0, c00, f00, c01, f01, c02, f02, c03, f03⟩ := cells4 (C26.out.m.b 0 rfl)
        obtain ⟨w27, HW⟩ : ∃ q, Hid (q = (w26.setCell ⟨X, 2, none⟩ (.slice p9 N9 c9))) := ⟨_, Lib.hid rfl⟩
        have C27 := Lib.hid (C26.out.mm (W' := w27) (C26.out.m.set 0 rfl (by rw [HW.out]; exact gr_set w26 X 2 (.slice p9 N9 c9)) (by rw [HW.out]; exact (heap_set (j := 2) (.slice p9 N9 c9) (C26.out.m.b 0 rfl)))))
        go_simp
        refine hK.out _ _ trivial (fun _ => ?_)
        clear hK K
        try simp only [Act.put, q0, q1, q2]
        refine wpAnyH_done (by kernel_rfl) ?_ _
        rw [← HW.out]
        clear HW C26 l0 c00 f00 c01 f01 c02 f02 c03 f03
        go_wp2_with fail
        refine (C27.out.exp ⟨#[59]⟩ (by decide)).mono ?_
        rintro e w29 (⟨rfl, hlt28, C29⟩ | ⟨t, rfl, HB⟩)
        ·clear C27
         go_wp2_with fail
         have HL9 : Hid ((tr ++ [s2]).length ≤ k' + 1 + 1 + 1) := Lib.hid (by have h1 := HLN.out; simp only [List.length_append, List.length_cons, List.length_nil]; omega)
         go_roundg (n - (k' + 1 + 1 + 1))
         case measure => omega
         case rel => exact ⟨k' + 1 + 1 + 1, p9, N9, c9, _, rfl, by omega, by omega, HL9, C29⟩
        ·go_wp2_with fail
         exact ⟨rfl, (HB.out.up HF1.out).pq⟩
       ·obtain ⟨X30, w30, HX, HW, hx30, C30⟩ := C24.out.boxE #[.string s2] 9
        go_simp
        refine hK.out _ _ trivial (fun _ => ?_)
        clear hK K
        try simp only [Act.put, q0, q1, q2]
        rw [← HX.out, ← HW.out]
        clear HX HW C24
        refine rR1 1 (some 24) (fun K hK => ?_)
        obtain ⟨l1, c10, f10, c11, f11, c12, f12, c13, f13⟩ := cells4 (C30.out.m.b 1 rfl)
        go_simp
        refine hK.out _ _ trivial (fun _ => ?_)
        clear hK K
        try simp only [Act.put, q0, q1, q2]
        clear l1 c10 f10 c11 f11 c12 f12 c13 f13
        refine rR1 5 (some 28) (fun K hK => ?_)
        refine C30.out.pushS tkN rfl HLEN (by rfl) _ _ (by rfl) (by rfl) (by rfl) ?_
        intro p9 N9 c9 w31 HN9 C31
        clear C30
        refine hK.out _ _ trivial (fun _ => ?_)
        clear hK K
        try simp only [Act.put, q0, q1, q2]
        refine rT 6 (some 29) ?_
        try simp only [Act.put, q0, q1, q2]
        refine rR1 7 none (fun K hK => ?_)
        obtain ⟨l0, c00, f00, c01, f01, c02, f02, c03, f03⟩ := cells4 (C31.out.m.b 0 rfl)
        obtain ⟨w32, HW⟩ : ∃ q, Hid (q = (w31.setCell ⟨X, 2, none⟩ (.slice p9 N9 c9))) := ⟨_, Lib.hid rfl⟩
        have C32 := Lib.hid (C31.out.mm (W' := w32) (C31.out.m.set 0 rfl (by rw [HW.out]; exact gr_set w31 X 2 (.slice p9 N9 c9)) (by rw [HW.out]; exact (heap_set (j := 2) (.slice p9 N9 c9) (C31.out.m.b 0 rfl)))))
        go_simp
        refine hK.out _ _ trivial (fun _ => ?_)
        clear hK K
        try simp only [Act.put, q0, q1, q2]
        refine wpAnyH_done (by kernel_rfl) ?_ _
        rw [← HW.out]
        clear HW C31 l0 c00 f00 c01 f01 c02 f02 c03 f03
        go_wp2_with fail
        refine (C32.out.exp ⟨#[59]⟩ (by decide)).mono ?_
        rintro e w34 (⟨rfl, hlt33, C34⟩ | ⟨t, rfl, HB⟩)
        ·clear C32
         go_wp2_with fail
         have HL9 : Hid ((tr ++ [s2]).length ≤ k' + 1 + 1 + 1) := Lib.hid (by have h1 := HLN.out; simp only [List.length_append, List.length_cons, List.length_nil]; omega)
         go_roundg (n - (k' + 1 + 1 + 1))
         case measure => omega
         case rel => exact ⟨k' + 1 + 1 + 1, p9, N9, c9, _, rfl, by omega, by omega, HL9, C34⟩
        ·go_wp2_with fail
         exact ⟨rfl, (HB.out.up HF1.out).pq⟩
      ·go_wp2_with fail
       exact ⟨rfl, (HB.out.up HF1.out).pq⟩
    ·clear C12
     have C37 := Lib.hid (C13.out.unf HF1.out)
     clear C13
     obtain ⟨bf, C35, hfs⟩ := C37.out.strs
     have HFS := Lib.hid hfs
     obtain ⟨D35, hf⟩ := ((C35.spc (G' := fun f ts => (if b then Pa.pMs f [] ts else .ok [] ts).bind fun ms r => (Pa.expect [125] r).bind fun _ r => .ok ⟨s1, b, tr, ms⟩ r) (fun _ _ => rfl)).nilR tkM).foc
     have HF2 := Lib.hid hf
     have C36 := Lib.hid D35
     obtain ⟨BM, hBM⟩ : ∃ q, q = w13.heap.size := ⟨_, rfl⟩
     rw [← hBM] at C36
     clear C35 D35 hf hBM hfs C37
     go_wp2_with fail
     go_loopg [33] (n - k') (fun gg s33 wr => ∃ (j' : Nat) (p3 : Option Addr) (N3 c3 : Nat) (tm : List MT), gg = n - j' ∧ k' ≤ j' ∧ j' ≤ n ∧ Hid (tm.length ≤ j') ∧ Hid (b = false → tm = []) ∧ Hid (Cx L n tbk tc P k w (fun f => if b then Pa.pMs f [] (Pa.rest L n k') else .ok [] (Pa.rest L n k')) j' ((X, #[.string s1, .bool b, .slice p N c, .slice p3 N3 c3], 49) :: (w.heap.size, #[.string ⟨#[]⟩, .bool false, .slice none 0 0, .slice none 0 0], 49) :: bf) [imR tkM BM (.slice p3 N3 c3) tm] (fun f ts => if b then Pa.pMs f (tm.map Prod.fst) ts else .ok [] ts) wr))
     case atStart => exact ⟨k', none, 0, 0, [], rfl, by omega, by omega, Lib.hid (Nat.zero_le _), Lib.hid (fun _ => rfl), C36⟩
     case round =>
      clear C36 HF1
      obtain ⟨j', p3, N3, c3, tm, rfl, hltj, hnj, HLM, HNON, CR⟩ := hrel
      cases b with
      | false =>
        have hnon := HNON.out rfl
        subst hnon
        have C38 := Lib.hid (CR.out.spc (G' := fun _ ts => .ok [] ts) (fun _ _ => rfl))
        clear CR
        obtain ⟨l0, c00, f00, c01, f01, c02, f02, c03, f03⟩ := cells4 (C38.out.m.b 0 rfl)
        go_upto_region 13 with fail
        clear l0 c00 f00 c01 f01 c02 f02 c03 f03
        have C39 := Lib.hid (C38.out.unf HF2.out)
        clear C38
        go_wp2_with fail
        refine (C39.out.exp ⟨#[125]⟩ (by decide)).mono ?_
        rintro e w41 (⟨rfl, hlt40, C41⟩ | ⟨t, rfl, HB⟩)
        ·clear C39
         obtain ⟨l0, c00, f00, c01, f01, c02, f02, c03, f03⟩ := cells4 (C41.out.m.b 0 rfl)
         obtain ⟨l1, c10, f10, c11, f11, c12, f12, c13, f13⟩ := cells4 (C41.out.m.b 1 rfl)
         go_wp2_with fail
         exact C41.out.retC (x := ⟨s1, false, tr, []⟩) 1 rfl (by omega) Tryz.results60 rfl rfl (fun U b o => ⟨HSZ.out, HFS.out U (fun j _ _ _ h => b (j + 2) (by omega) h), o 0 rfl⟩)
        ·go_wp2_with fail
         exact ⟨rfl, HB.out.pq⟩
      | true =>
        have C42 := Lib.hid (CR.out.spec (G' := fun f ts => Pa.opt [111, 110] (fun r => (Pa.word 2 r).bind fun n r => (Pa.pParams f r).bind fun p r => (Pa.pB f r).bind fun b r => Pa.pMs f (tm.map Prod.fst ++ [(⟨n, p, b⟩ : Tr.M)]) r) (fun r => .ok (tm.map Prod.fst) r) ts) (fun f ts => (if_pos rfl).trans (pMso _ f ts)))
        clear CR
        obtain ⟨l0, c00, f00, c01, f01, c02, f02, c03, f03⟩ := cells4 (C42.out.m.b 0 rfl)
        go_wp2_with fail
        clear l0 c00 f00 c01 f01 c02 f02 c03 f03
        refine (C42.out.take ⟨#[111, 110]⟩ (by decide)).mono ?_
        rintro e w43 (⟨rfl, hlt44, C43⟩ | ⟨rfl, C43⟩)
        ·clear C42
         go_wp2_with fail
         refine (C43.out.name).mono ?_
         rintro e w45 (⟨s3, rfl, hlt3, hsz3, C45⟩ | ⟨t, rfl, HB⟩)
         ·clear C43
          obtain ⟨Y, w46, HX, HW, hx46, C46⟩ := C45.out.boxE #[.string s3, .slice none 0 0, .slice none 0 0] 64
          go_upto_region 10 with fail
          rw [← HX.out, ← HW.out]
          clear HX HW C45
          go_wp2_with fail
          refine (C46.out.callN (names_any C46.out.hL _ _ C46.out.ps)).mono ?_
          rintro e w47 (⟨l4, p4, N4, c4, k4, rfl, hlt4, hn4, C47⟩ | ⟨t, rfl, HB⟩)
          ·clear C46
           obtain ⟨l0, c00, f00, c01, f01, c02, f02⟩ := cells3 (C47.out.m.b 0 rfl)
           obtain ⟨w48, HW⟩ : ∃ q, Hid (q = (w47.setCell ⟨Y, 1, none⟩ (.slice p4 N4 c4))) := ⟨_, Lib.hid rfl⟩
           have C48 := Lib.hid (C47.out.mm (W' := w48) (C47.out.m.set 0 rfl (by rw [HW.out]; exact gr_set w47 Y 1 (.slice p4 N4 c4)) (by rw [HW.out]; exact (heap_set (j := 1) (.slice p4 N4 c4) (C47.out.m.b 0 rfl)))))
           go_upto_region 11 with fail
           rw [← HW.out]
           clear HW C47 l0 c00 f00 c01 f01 c02 f02
           go_wp2_with fail
           refine (C48.out.callB (pblock_any C48.out.hL HQ.out _ _ C48.out.ps)).mono ?_
           rintro e w49 (⟨b5, p5, N5, c5, k5, rfl, hlt5, hn5, C49⟩ | ⟨t, rfl, HB⟩)
           ·clear C48
            obtain ⟨l0, c00, f00, c01, f01, c02, f02⟩ := cells3 (C49.out.m.b 0 rfl)
            obtain ⟨w50, HW⟩ : ∃ q, Hid (q = (w49.setCell ⟨Y, 2, none⟩ (.slice p5 N5 c5))) := ⟨_, Lib.hid rfl⟩
            have C50 := Lib.hid (C49.out.mm (W' := w50) (C49.out.m.set 0 rfl (by rw [HW.out]; exact gr_set w49 Y 2 (.slice p5 N5 c5)) (by rw [HW.out]; exact (heap_set (j := 2) (.slice p5 N5 c5) (C49.out.m.b 0 rfl)))))
            go_upto_region 12 with fail
            rw [← HW.out]
            clear HW C49 l0 c00 f00 c01 f01 c02 f02
            have C51 := Lib.hid (C50.out.join (rd := fun U => ReadM U ⟨s3, l4, b5⟩ (.slice p4 N4 c4) (.slice p5 N5 c5)) (fun _ _ h hx => ⟨hx.1, hx.2.1.inc h, hx.2.2.inc h⟩) (fun U h1 h2 => ⟨hsz3, h2, h1⟩))
            clear C50
            obtain ⟨l0, c00, f00, c01, f01, c02, f02⟩ := cells3 (C51.out.m.b 0 rfl)
            obtain ⟨l1, c10, f10, c11, f11, c12, f12, c13, f13⟩ := cells4 (C51.out.m.b 1 rfl)
            obtain ⟨X52, w52, HX, HW, hx52, C52⟩ := C51.out.boxE #[.string s3, .slice p4 N4 c4, .slice p5 N5 c5] 64
            clear C51
            go_wp2_with (at_builtin; rw [← HX.out, ← HW.out]; refine C52.out.pushW tkM (x := ((⟨s3, l4, b5⟩, .slice p4 N4 c4, .slice p5 N5 c5) : MT)) rfl (by have h1 := HLM.out; have h2 := C52.out.hL.few; omega) rfl _ _ rfl rfl rfl ?_; intro p9 N9 c9 w53 HN9 C53; obtain ⟨m0, m1, m2, m3, m4, m5, m6, m7, m8⟩ := cells4 (C53.out.m.b 1 rfl))
            clear HX HW C52 hx52 m0 m1 m2 m3 m4 m5 m6 m7 m8 l0 c00 f00 c01 f01 c02 f02 l1 c10 f10 c11 f11 c12 f12 c13 f13
            have C54 := Lib.hid (C53.out.mm (C53.out.m.tl))
            clear C53
            have C55 := Lib.hid (C54.out.mm (C54.out.m.set 0 rfl (gr_set _ _ 3 (.slice p9 N9 c9)) (heap_set (j := 3) (.slice p9 N9 c9) (C54.out.m.b 0 rfl))))
            clear C54
            have C56 := Lib.hid (C55.out.spc (G' := fun f ts => if true then Pa.pMs f ((tm ++ [((⟨s3, l4, b5⟩, .slice p4 N4 c4, .slice p5 N5 c5) : MT)]).map Prod.fst) ts else .ok [] ts) (fun f ts => by rw [map_snoc]; rfl))
            clear C55
            have HL9 : Hid ((tm ++ [((⟨s3, l4, b5⟩, .slice p4 N4 c4, .slice p5 N5 c5) : MT)]).length ≤ k5) := Lib.hid (by have h1 := HLM.out; simp only [List.length_append, List.length_cons, List.length_nil]; omega)
            go_roundg (n - k5)
            case measure => omega
            case rel => exact ⟨k5, p9, N9, c9, _, rfl, by omega, by omega, HL9, Lib.hid (fun h => by cases h), C56⟩
           ·go_wp2_with fail
            exact ⟨rfl, (HB.out.up HF2.out).pq⟩
          ·go_wp2_with fail
           exact ⟨rfl, (HB.out.up HF2.out).pq⟩
         ·go_wp2_with fail
          exact ⟨rfl, (HB.out.up HF2.out).pq⟩
        ·clear C42
         have C57 := Lib.hid (C43.out.unf HF2.out)
         clear C43
         go_wp2_with fail
         refine (C57.out.exp ⟨#[125]⟩ (by decide)).mono ?_
         rintro e w59 (⟨rfl, hlt58, C59⟩ | ⟨t, rfl, HB⟩)
         ·clear C57
          obtain ⟨l0, c00, f00, c01, f01, c02, f02, c03, f03⟩ := cells4 (C59.out.m.b 0 rfl)
          obtain ⟨l1, c10, f10, c11, f11, c12, f12, c13, f13⟩ := cells4 (C59.out.m.b 1 rfl)
          go_wp2_with fail
          exact C59.out.retC (x := ⟨s1, true, tr, tm.map Prod.fst⟩) 1 rfl (by omega) Tryz.results60 rfl rfl (fun U b o => ⟨HSZ.out, HFS.out U (fun j _ _ _ h => b (j + 2) (by omega) h), o 0 rfl⟩)
         ·go_wp2_with fail
          exact ⟨rfl, HB.out.pq⟩
  ·go_wp2_with fail
   exact ⟨rfl, HB.out.pq⟩
 ·go_wp2_with fail
  exact ⟨rfl, HB.out.pq⟩
end Go.Proofs.YtdckddkalgnlpaaGreatDoor
