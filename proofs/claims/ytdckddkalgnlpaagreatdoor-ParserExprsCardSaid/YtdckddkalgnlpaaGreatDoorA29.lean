/-
  Several texts in one: PbPrg, LexJoin, PbScan, PbRunA.
-/
import Derived.Test.YtdckddkalgnlpaaGreatDoorA23
import Derived.Test.YtdckddkalgnlpaaGreatDoorA5
import Derived.Test.YtdckddkalgnlpaaGreatDoorA22
import Derived.Defers
import Derived.Recover
namespace Go.Proofs.YtdckddkalgnlpaaGreatDoor
open Go.RowKit Go.Maps Pw
theorem ev_pP {L : List Lex.Tok} {n k : Nat} {l : List Tr.C} {x : Pa.R (List Tr.C)} (hL : Pa.TkL L n) (hk : k < n) (h : Pa.Ev (fun f => (Pa.pC f (Pa.rest L n k)).bind fun c r => Pa.pP f (l ++ [c]) r) x) : Pa.Ev (fun f => Pa.pP f l (Pa.rest L n k)) x := by
 refine .step (fun f => ?_) h
 obtain ⟨t, ht⟩ := hL.get (Nat.le_of_lt hk)
 rw [Pa.pP, if_neg]
 rw [head_kind hL (Nat.le_of_lt hk) ht]
 exact hL.kind k t hk ht
def PrgPost (L : List Lex.Tok) (n tbk tc P k : Nat) (w : World) (e : Ending) (w' : World) : Prop :=
 w.grownBy w' (some P) ∧
 ((∃ cs v k', (∀ x, Pa.Ev (fun f => Pa.pP f cs (Pa.rest L n k')) x → Pa.Ev (fun f => Pa.pP f [] (Pa.rest L n k)) x) ∧ e = .returned (.agg #[v]) ∧ SlC (hide (upL w.heap.size []) w') v cs ∧ Pa.is [114, 101, 99, 111, 114, 100] (Pa.rest L n k') = false ∧ Pa.is [97, 99, 116, 111, 114] (Pa.rest L n k') = false ∧ k ≤ k' ∧ PS L n tbk tc P k' w') ∨
  (∃ k' t, Pa.Ev (fun f => Pa.pP f [] (Pa.rest L n k)) (.bad (Pa.rest L n k')) ∧ e = .panicked (failV t.pos) ∧ k ≤ k' ∧ k' ≤ n ∧ L[k']? = some t))
theorem Bd.prg {L : List Lex.Tok} {n tbk tc P k : Nat} {w W : World} {t : Lex.Tok} (h : Bd L n P k w (fun f => Pa.pP f [] (Pa.rest L n k)) t W) : PrgPost L n tbk tc P k w (.panicked (failV t.pos)) W := by
 obtain ⟨hg, k', he, h1, h2, h3⟩ := h
 exact ⟨hg, .inr ⟨k', t, he, rfl, h1, h2, h3⟩⟩
theorem cells1 {W : World} {b : Nat} {t : TypeId} {v : Value} (h : W.heap[b]? = some (.cells #[v] t (0, 0))) : b < W.heap.size ∧ W.cell? ⟨b, 0, none⟩ = some v ∧ W.frozen? ⟨b, 0, none⟩ = false := ⟨lt_of_block h, cell_of_blkP h (j := 0) rfl, blk_free h 0⟩
theorem Cx.callC {β : Type} {L : List Lex.Tok} {n tbk tc P k0 k : Nat} {w W : World} {p0 : Nat → Pa.R β} {bs : List Bk} {os : List Im} {F : Nat} {args : Array Value} {p : Nat → Pa.Toks → Pa.R Tr.C} {q : Nat → Tr.C → Pa.Toks → Pa.R β} (h : Cx L n tbk tc P k0 w p0 k bs os (fun f ts => (p f ts).bind fun a r => q f a r) W) (hK : Calls Tryz.prog F args W (PQ L n tbk tc P k p rdC W)) :
 Calls Tryz.prog F args W fun e W' => (∃ (c : Tr.C) (px : Option Addr) (Nx cx : Nat) (py : Option Addr) (Ny cy k' : Nat), e = .returned (.agg #[.string c.name, .bool c.actor, .slice px Nx cx, .slice py Ny cy]) ∧ k < k' ∧ k' ≤ n ∧ Hid (Cx L n tbk tc P k0 w p0 k' bs (im W.heap.size (fun U => ReadC U c (.slice px Nx cx) (.slice py Ny cy)) :: os) (fun f ts => q f c ts) W')) ∨ ∃ t, e = .panicked (failV t.pos) ∧ Hid (Bd L n P k0 w p0 t W') := by
 refine (h.callR (rd := fun U => rdC (hide (upL W.heap.size []) U)) hK).mono ?_
 rintro e W' (⟨c, v, k', he, ⟨x, y, rfl, hr⟩, hlt, hkn, hC⟩ | h2)
 ·obtain ⟨px, cx, rfl⟩ := hr.2.1.form
  obtain ⟨py, cy, rfl⟩ := hr.2.2.form
  exact .inl ⟨c, px, _, cx, py, _, cy, k', he, hlt, hkn, Lib.hid (hC (o := im W.heap.size (fun U => ReadC U c (.slice px _ cx) (.slice py _ cy))) (im_it (fun _ _ h hx => ⟨hx.1, hx.2.1.inc h, hx.2.2.inc h⟩)) rfl hr)⟩
 ·exact .inr h2
set_option maxRecDepth 100000 in
set_option maxHeartbeats 8000000 in
theorem program_any9 {L : List Lex.Tok} {n tbk tc P : Nat} (hL : Pa.TkL L n) (hq : NoEq L) (k : Nat) (w : World) (hp : PS L n tbk tc P k w) : Calls Tryz.prog 25 #[.pointer (some ⟨P, 0, none⟩)] w (PrgPost L n tbk tc P k w) := by
 have hkn0 := hp.le
 have HQ := Lib.hid hq
 obtain ⟨w60, HW, C60⟩ := (Cx.start hL hp (fun f ts => Pa.pP f [] ts)).boxR #[.slice none 0 0] 25
 clear hL hp
 go_enter Tryz.func25, Tryz.ntmps25
 go_upto_region 1 with fail
 rw [← HW.out]
 clear HW
 clear hq
 obtain ⟨X, w61, HX, HW, hx61, C61⟩ := C60.out.boxE #[.slice none 0 0] 25
 go_wp2_with fail
 rw [← HX.out, ← HW.out]
 clear HX HW C60
 have C62 := Lib.hid (C61.out.nilR tkC)
 obtain ⟨BP, hBP⟩ : ∃ q, q = w61.heap.size := ⟨_, rfl⟩
 rw [← hBP] at C62
 clear hBP C61
 go_loopg [4] (n - k) (fun gg s4 wr => ∃ (k' : Nat) (p : Option Addr) (N c : Nat) (tr : List CT), gg = n - k' ∧ k ≤ k' ∧ k' ≤ n ∧ Hid (tr.length ≤ k') ∧ Hid (Cx L n tbk tc P k w (fun f => Pa.pP f [] (Pa.rest L n k)) k' [(X, #[.slice p N c], 25), (w.heap.size, #[.slice none 0 0], 25)] [imR tkC BP (.slice p N c) tr] (fun f ts => Pa.pP f (tr.map Prod.fst) ts) wr))
 case atStart => exact ⟨k, none, 0, 0, [], rfl, Nat.le_refl _, hkn0, Lib.hid (Nat.zero_le _), C62⟩
 case round =>
  clear C62
  obtain ⟨k', p, N, c, tr, rfl, hltk, hnk, HLN, CR⟩ := hrel
  obtain ⟨l0, c00, f00⟩ := cells1 (CR.out.m.b 0 rfl)
  obtain ⟨l1, c10, f10⟩ := cells1 (CR.out.m.b 1 rfl)
  go_wp2_with fail
  clear l0 c00 f00 l1 c10 f10
  refine (CR.out.is ⟨#[114, 101, 99, 111, 114, 100]⟩ (by decide)).mono ?_
  rintro e w65 (⟨rfl, HI64, C65⟩ | ⟨rfl, HI64, C65⟩)
  ·clear CR
   have his1 := Pa.is_lt C65.out.le HI64.out
   have HLEN : tr.length ≤ 1000000 := by have h1 := HLN.out; have h2 := C65.out.hL.few; omega
   have C66 := Lib.hid (C65.out.evs (G' := fun f ts => (Pa.pC f ts).bind fun c r => Pa.pP f (tr.map Prod.fst ++ [c]) r) (fun x hx => ev_pP C65.out.hL his1 hx))
   clear C65
   go_upto_region 3 with fail
   obtain ⟨w67, HW, C67⟩ := C66.out.drewE
   refine wp_region_held_drew (S := fun _ => True) (by kernel_rfl) trivial (fun _ => ?_)
   rw [← HW.out]
   clear HW C66
   refine rT 0 (some 10) ?_
   try simp only [Act.put, q0, q1, q2]
   refine rT 2 (some 12) ?_
   try simp only [Act.put, q0, q1, q2]
   refine rR2 1 (some 11) 3 (some 13) (fun K hK => ?_) (fun K hK => ?_)
   ·obtain ⟨l0, c00, f00⟩ := cells1 (C67.out.m.b 0 rfl)
    go_simp
    refine hK.out _ _ trivial (fun _ => ?_)
    clear hK K
    try simp only [Act.put, q0, q1, q2]
    clear l0 c00 f00
    refine rR1 3 (some 13) (fun K hK => ?_)
    go_simp
    refine (C67.out.callC (pclass_any C67.out.hL HQ.out _ _ C67.out.ps (.inr HI64.out))).mono ?_
    rintro e w68 (⟨c1, px1, Nx1, cx1, py1, Ny1, cy1, k1, rfl, hlt1, hn1, C68⟩ | ⟨t, rfl, HB⟩)
    ·clear C67
     go_wp2_with fail
     refine hK.out _ _ trivial (fun _ => ?_)
     clear hK K
     try simp only [Act.put, q0, q1, q2]
     refine rR1 4 (some 14) (fun K hK => ?_)
     obtain ⟨X69, w69, HX, HW, hx69, C69⟩ := C68.out.boxE #[.string c1.name, .bool c1.actor, .slice px1 Nx1 cx1, .slice py1 Ny1 cy1] 49
     go_simp
     refine hK.out _ _ trivial (fun _ => ?_)
     clear hK K
     try simp only [Act.put, q0, q1, q2]
     rw [← HX.out, ← HW.out]
     clear HX HW C68
     refine rR1 5 (some 15) (fun K hK => ?_)
     refine C69.out.pushS tkC (x := ((c1, .slice px1 Nx1 cx1, .slice py1 Ny1 cy1) : CT)) rfl HLEN (by rfl) _ _ (by rfl) (by rfl) (by rfl) ?_
     intro p9 N9 c9 w70 HN9 C70
     clear C69
     refine hK.out _ _ trivial (fun _ => ?_)
     clear hK K
     try simp only [Act.put, q0, q1, q2]
     refine rT 6 (some 16) ?_
     try simp only [Act.put, q0, q1, q2]
     refine rR1 7 none (fun K hK => ?_)
     obtain ⟨l0, c00, f00⟩ := cells1 (C70.out.m.b 0 rfl)
     obtain ⟨w71, HW⟩ : ∃ q, Hid (q = (w70.setCell ⟨X, 0, none⟩ (.slice p9 N9 c9))) := ⟨_, Lib.hid rfl⟩
     have C71 := Lib.hid (C70.out.mm (W' := w71) (C70.out.m.set 0 rfl (by rw [HW.out]; exact gr_set w70 X 0 (.slice p9 N9 c9)) (by rw [HW.out]; exact (heap_set (j := 0) (.slice p9 N9 c9) (C70.out.m.b 0 rfl)))))
     go_simp
     refine hK.out _ _ trivial (fun _ => ?_)
     clear hK K
     try simp only [Act.put, q0, q1, q2]
     refine wpAnyH_done (by kernel_rfl) ?_ _
     rw [← HW.out]
     clear HW C70 l0 c00 f00
     have C72 := Lib.hid (C71.out.spc (fun f ts => by rw [← map_snoc (Prod.fst : CT → Tr.C) tr ((c1, .slice px1 Nx1 cx1, .slice py1 Ny1 cy1) : CT)]))
     clear C71
     go_wp2_with fail
     have HL9 : Hid ((tr ++ [((c1, .slice px1 Nx1 cx1, .slice py1 Ny1 cy1) : CT)]).length ≤ k1) := Lib.hid (by have h1 := HLN.out; simp only [List.length_append, List.length_cons, List.length_nil]; omega)
     go_roundg (n - k1)
     case measure => omega
     case rel => exact ⟨k1, p9, N9, c9, _, rfl, by omega, by omega, HL9, C72⟩
    ·go_wp2_with fail
     exact ⟨rfl, HB.out.prg⟩
   ·go_simp
    refine (C67.out.callC (pclass_any C67.out.hL HQ.out _ _ C67.out.ps (.inr HI64.out))).mono ?_
    rintro e w73 (⟨c1, px1, Nx1, cx1, py1, Ny1, cy1, k1, rfl, hlt1, hn1, C73⟩ | ⟨t, rfl, HB⟩)
    ·clear C67
     go_wp2_with fail
     refine hK.out _ _ trivial (fun _ => ?_)
     clear hK K
     try simp only [Act.put, q0, q1, q2]
     refine rR2 1 (some 11) 4 (some 14) (fun K hK => ?_) (fun K hK => ?_)
     ·obtain ⟨l0, c00, f00⟩ := cells1 (C73.out.m.b 0 rfl)
      go_simp
      refine hK.out _ _ trivial (fun _ => ?_)
      clear hK K
      try simp only [Act.put, q0, q1, q2]
      clear l0 c00 f00
      refine rR1 4 (some 14) (fun K hK => ?_)
      obtain ⟨X74, w74, HX, HW, hx74, C74⟩ := C73.out.boxE #[.string c1.name, .bool c1.actor, .slice px1 Nx1 cx1, .slice py1 Ny1 cy1] 49
      go_simp
      refine hK.out _ _ trivial (fun _ => ?_)
      clear hK K
      try simp only [Act.put, q0, q1, q2]
      rw [← HX.out, ← HW.out]
      clear HX HW C73
      refine rR1 5 (some 15) (fun K hK => ?_)
      refine C74.out.pushS tkC (x := ((c1, .slice px1 Nx1 cx1, .slice py1 Ny1 cy1) : CT)) rfl HLEN (by rfl) _ _ (by rfl) (by rfl) (by rfl) ?_
      intro p9 N9 c9 w75 HN9 C75
      clear C74
      refine hK.out _ _ trivial (fun _ => ?_)
      clear hK K
      try simp only [Act.put, q0, q1, q2]
      refine rT 6 (some 16) ?_
      try simp only [Act.put, q0, q1, q2]
      refine rR1 7 none (fun K hK => ?_)
      obtain ⟨l0, c00, f00⟩ := cells1 (C75.out.m.b 0 rfl)
      obtain ⟨w76, HW⟩ : ∃ q, Hid (q = (w75.setCell ⟨X, 0, none⟩ (.slice p9 N9 c9))) := ⟨_, Lib.hid rfl⟩
      have C76 := Lib.hid (C75.out.mm (W' := w76) (C75.out.m.set 0 rfl (by rw [HW.out]; exact gr_set w75 X 0 (.slice p9 N9 c9)) (by rw [HW.out]; exact (heap_set (j := 0) (.slice p9 N9 c9) (C75.out.m.b 0 rfl)))))
      go_simp
      refine hK.out _ _ trivial (fun _ => ?_)
      clear hK K
      try simp only [Act.put, q0, q1, q2]
      refine wpAnyH_done (by kernel_rfl) ?_ _
      rw [← HW.out]
      clear HW C75 l0 c00 f00
      have C77 := Lib.hid (C76.out.spc (fun f ts => by rw [← map_snoc (Prod.fst : CT → Tr.C) tr ((c1, .slice px1 Nx1 cx1, .slice py1 Ny1 cy1) : CT)]))
      clear C76
      go_wp2_with fail
      have HL9 : Hid ((tr ++ [((c1, .slice px1 Nx1 cx1, .slice py1 Ny1 cy1) : CT)]).length ≤ k1) := Lib.hid (by have h1 := HLN.out; simp only [List.length_append, List.length_cons, List.length_nil]; omega)
      go_roundg (n - k1)
      case measure => omega
      case rel => exact ⟨k1, p9, N9, c9, _, rfl, by omega, by omega, HL9, C77⟩
     ·obtain ⟨X78, w78, HX, HW, hx78, C78⟩ := C73.out.boxE #[.string c1.name, .bool c1.actor, .slice px1 Nx1 cx1, .slice py1 Ny1 cy1] 49
      go_simp
      refine hK.out _ _ trivial (fun _ => ?_)
      clear hK K
      try simp only [Act.put, q0, q1, q2]
      rw [← HX.out, ← HW.out]
      clear HX HW C73
      refine rR1 1 (some 11) (fun K hK => ?_)
      obtain ⟨l1, c10, f10⟩ := cells1 (C78.out.m.b 1 rfl)
      go_simp
      refine hK.out _ _ trivial (fun _ => ?_)
      clear hK K
      try simp only [Act.put, q0, q1, q2]
      clear l1 c10 f10
      refine rR1 5 (some 15) (fun K hK => ?_)
      refine C78.out.pushS tkC (x := ((c1, .slice px1 Nx1 cx1, .slice py1 Ny1 cy1) : CT)) rfl HLEN (by rfl) _ _ (by rfl) (by rfl) (by rfl) ?_
      intro p9 N9 c9 w79 HN9 C79
      clear C78
      refine hK.out _ _ trivial (fun _ => ?_)
      clear hK K
      try simp only [Act.put, q0, q1, q2]
      refine rT 6 (some 16) ?_
      try simp only [Act.put, q0, q1, q2]
      refine rR1 7 none (fun K hK => ?_)
      obtain ⟨l0, c00, f00⟩ := cells1 (C79.out.m.b 0 rfl)
      obtain ⟨w80, HW⟩ : ∃ q, Hid (q = (w79.setCell ⟨X, 0, none⟩ (.slice p9 N9 c9))) := ⟨_, Lib.hid rfl⟩
      have C80 := Lib.hid (C79.out.mm (W' := w80) (C79.out.m.set 0 rfl (by rw [HW.out]; exact gr_set w79 X 0 (.slice p9 N9 c9)) (by rw [HW.out]; exact (heap_set (j := 0) (.slice p9 N9 c9) (C79.out.m.b 0 rfl)))))
      go_simp
      refine hK.out _ _ trivial (fun _ => ?_)
      clear hK K
      try simp only [Act.put, q0, q1, q2]
      refine wpAnyH_done (by kernel_rfl) ?_ _
      rw [← HW.out]
      clear HW C79 l0 c00 f00
      have C81 := Lib.hid (C80.out.spc (fun f ts => by rw [← map_snoc (Prod.fst : CT → Tr.C) tr ((c1, .slice px1 Nx1 cx1, .slice py1 Ny1 cy1) : CT)]))
      clear C80
      go_wp2_with fail
      have HL9 : Hid ((tr ++ [((c1, .slice px1 Nx1 cx1, .slice py1 Ny1 cy1) : CT)]).length ≤ k1) := Lib.hid (by have h1 := HLN.out; simp only [List.length_append, List.length_cons, List.length_nil]; omega)
      go_roundg (n - k1)
      case measure => omega
      case rel => exact ⟨k1, p9, N9, c9, _, rfl, by omega, by omega, HL9, C81⟩
    ·go_wp2_with fail
     exact ⟨rfl, HB.out.prg⟩
  ·clear CR
   have HREC := HI64
   go_wp2_with fail
   refine (C65.out.is ⟨#[97, 99, 116, 111, 114]⟩ (by decide)).mono ?_
   rintro e w83 (⟨rfl, HI82, C83⟩ | ⟨rfl, HI82, C83⟩)
   ·clear C65
    have his1 := Pa.is_lt C83.out.le HI82.out
    have HLEN : tr.length ≤ 1000000 := by have h1 := HLN.out; have h2 := C83.out.hL.few; omega
    have C84 := Lib.hid (C83.out.evs (G' := fun f ts => (Pa.pC f ts).bind fun c r => Pa.pP f (tr.map Prod.fst ++ [c]) r) (fun x hx => ev_pP C83.out.hL his1 hx))
    clear C83
    go_upto_region 3 with fail
    obtain ⟨w85, HW, C85⟩ := C84.out.drewE
    refine wp_region_held_drew (S := fun _ => True) (by kernel_rfl) trivial (fun _ => ?_)
    rw [← HW.out]
    clear HW C84
    refine rT 0 (some 10) ?_
    try simp only [Act.put, q0, q1, q2]
    refine rT 2 (some 12) ?_
    try simp only [Act.put, q0, q1, q2]
    refine rR2 1 (some 11) 3 (some 13) (fun K hK => ?_) (fun K hK => ?_)
    ·obtain ⟨l0, c00, f00⟩ := cells1 (C85.out.m.b 0 rfl)
     go_simp
     refine hK.out _ _ trivial (fun _ => ?_)
     clear hK K
     try simp only [Act.put, q0, q1, q2]
     clear l0 c00 f00
     refine rR1 3 (some 13) (fun K hK => ?_)
     go_simp
     refine (C85.out.callC (pclass_any C85.out.hL HQ.out _ _ C85.out.ps (.inl HI82.out))).mono ?_
     rintro e w86 (⟨c1, px1, Nx1, cx1, py1, Ny1, cy1, k1, rfl, hlt1, hn1, C86⟩ | ⟨t, rfl, HB⟩)
     ·clear C85
      go_wp2_with fail
      refine hK.out _ _ trivial (fun _ => ?_)
      clear hK K
      try simp only [Act.put, q0, q1, q2]
      refine rR1 4 (some 14) (fun K hK => ?_)
      obtain ⟨X87, w87, HX, HW, hx87, C87⟩ := C86.out.boxE #[.string c1.name, .bool c1.actor, .slice px1 Nx1 cx1, .slice py1 Ny1 cy1] 49
      go_simp
      refine hK.out _ _ trivial (fun _ => ?_)
      clear hK K
      try simp only [Act.put, q0, q1, q2]
      rw [← HX.out, ← HW.out]
      clear HX HW C86
      refine rR1 5 (some 15) (fun K hK => ?_)
      refine C87.out.pushS tkC (x := ((c1, .slice px1 Nx1 cx1, .slice py1 Ny1 cy1) : CT)) rfl HLEN (by rfl) _ _ (by rfl) (by rfl) (by rfl) ?_
      intro p9 N9 c9 w88 HN9 C88
      clear C87
      refine hK.out _ _ trivial (fun _ => ?_)
      clear hK K
      try simp only [Act.put, q0, q1, q2]
      refine rT 6 (some 16) ?_
      try simp only [Act.put, q0, q1, q2]
      refine rR1 7 none (fun K hK => ?_)
      obtain ⟨l0, c00, f00⟩ := cells1 (C88.out.m.b 0 rfl)
      obtain ⟨w89, HW⟩ : ∃ q, Hid (q = (w88.setCell ⟨X, 0, none⟩ (.slice p9 N9 c9))) := ⟨_, Lib.hid rfl⟩
      have C89 := Lib.hid (C88.out.mm (W' := w89) (C88.out.m.set 0 rfl (by rw [HW.out]; exact gr_set w88 X 0 (.slice p9 N9 c9)) (by rw [HW.out]; exact (heap_set (j := 0) (.slice p9 N9 c9) (C88.out.m.b 0 rfl)))))
      go_simp
      refine hK.out _ _ trivial (fun _ => ?_)
      clear hK K
      try simp only [Act.put, q0, q1, q2]
      refine wpAnyH_done (by kernel_rfl) ?_ _
      rw [← HW.out]
      clear HW C88 l0 c00 f00
      have C90 := Lib.hid (C89.out.spc (fun f ts => by rw [← map_snoc (Prod.fst : CT → Tr.C) tr ((c1, .slice px1 Nx1 cx1, .slice py1 Ny1 cy1) : CT)]))
      clear C89
      go_wp2_with fail
      have HL9 : Hid ((tr ++ [((c1, .slice px1 Nx1 cx1, .slice py1 Ny1 cy1) : CT)]).length ≤ k1) := Lib.hid (by have h1 := HLN.out; simp only [List.length_append, List.length_cons, List.length_nil]; omega)
      go_roundg (n - k1)
      case measure => omega
      case rel => exact ⟨k1, p9, N9, c9, _, rfl, by omega, by omega, HL9, C90⟩
     ·go_wp2_with fail
      exact ⟨rfl, HB.out.prg⟩
    ·go_simp
     refine (C85.out.callC (pclass_any C85.out.hL HQ.out _ _ C85.out.ps (.inl HI82.out))).mono ?_
     rintro e w91 (⟨c1, px1, Nx1, cx1, py1, Ny1, cy1, k1, rfl, hlt1, hn1, C91⟩ | ⟨t, rfl, HB⟩)
     ·clear C85
      go_wp2_with fail
      refine hK.out _ _ trivial (fun _ => ?_)
      clear hK K
      try simp only [Act.put, q0, q1, q2]
      refine rR2 1 (some 11) 4 (some 14) (fun K hK => ?_) (fun K hK => ?_)
      ·obtain ⟨l0, c00, f00⟩ := cells1 (C91.out.m.b 0 rfl)
       go_simp
       refine hK.out _ _ trivial (fun _ => ?_)
       clear hK K
       try simp only [Act.put, q0, q1, q2]
       clear l0 c00 f00
       refine rR1 4 (some 14) (fun K hK => ?_)
       obtain ⟨X92, w92, HX, HW, hx92, C92⟩ := C91.out.boxE #[.string c1.name, .bool c1.actor, .slice px1 Nx1 cx1, .slice py1 Ny1 cy1] 49
       go_simp
       refine hK.out _ _ trivial (fun _ => ?_)
       clear hK K
       try simp only [Act.put, q0, q1, q2]
       rw [← HX.out, ← HW.out]
       clear HX HW C91
       refine rR1 5 (some 15) (fun K hK => ?_)
       refine C92.out.pushS tkC (x := ((c1, .slice px1 Nx1 cx1, .slice py1 Ny1 cy1) : CT)) rfl HLEN (by rfl) _ _ (by rfl) (by rfl) (by rfl) ?_
       intro p9 N9 c9 w93 HN9 C93
       clear C92
       refine hK.out _ _ trivial (fun _ => ?_)
       clear hK K
       try simp only [Act.put, q0, q1, q2]
       refine rT 6 (some 16) ?_
       try simp only [Act.put, q0, q1, q2]
       refine rR1 7 none (fun K hK => ?_)
       obtain ⟨l0, c00, f00⟩ := cells1 (C93.out.m.b 0 rfl)
       obtain ⟨w94, HW⟩ : ∃ q, Hid (q = (w93.setCell ⟨X, 0, none⟩ (.slice p9 N9 c9))) := ⟨_, Lib.hid rfl⟩
       have C94 := Lib.hid (C93.out.mm (W' := w94) (C93.out.m.set 0 rfl (by rw [HW.out]; exact gr_set w93 X 0 (.slice p9 N9 c9)) (by rw [HW.out]; exact (heap_set (j := 0) (.slice p9 N9 c9) (C93.out.m.b 0 rfl)))))
       go_simp
       refine hK.out _ _ trivial (fun _ => ?_)
       clear hK K
       try simp only [Act.put, q0, q1, q2]
       refine wpAnyH_done (by kernel_rfl) ?_ _
       rw [← HW.out]
       clear HW C93 l0 c00 f00
       have C95 := Lib.hid (C94.out.spc (fun f ts => by rw [← map_snoc (Prod.fst : CT → Tr.C) tr ((c1, .slice px1 Nx1 cx1, .slice py1 Ny1 cy1) : CT)]))
       clear C94
       go_wp2_with fail
       have HL9 : Hid ((tr ++ [((c1, .slice px1 Nx1 cx1, .slice py1 Ny1 cy1) : CT)]).length ≤ k1) := Lib.hid (by have h1 := HLN.out; simp only [List.length_append, List.length_cons, List.length_nil]; omega)
       go_roundg (n - k1)
       case measure => omega
       case rel => exact ⟨k1, p9, N9, c9, _, rfl, by omega, by omega, HL9, C95⟩
      ·obtain ⟨X96, w96, HX, HW, hx96, C96⟩ := C91.out.boxE #[.string c1.name, .bool c1.actor, .slice px1 Nx1 cx1, .slice py1 Ny1 cy1] 49
       go_simp
       refine hK.out _ _ trivial (fun _ => ?_)
       clear hK K
       try simp only [Act.put, q0, q1, q2]
       rw [← HX.out, ← HW.out]
       clear HX HW C91
       refine rR1 1 (some 11) (fun K hK => ?_)
       obtain ⟨l1, c10, f10⟩ := cells1 (C96.out.m.b 1 rfl)
       go_simp
       refine hK.out _ _ trivial (fun _ => ?_)
       clear hK K
       try simp only [Act.put, q0, q1, q2]
       clear l1 c10 f10
       refine rR1 5 (some 15) (fun K hK => ?_)
       refine C96.out.pushS tkC (x := ((c1, .slice px1 Nx1 cx1, .slice py1 Ny1 cy1) : CT)) rfl HLEN (by rfl) _ _ (by rfl) (by rfl) (by rfl) ?_
       intro p9 N9 c9 w97 HN9 C97
       clear C96
       refine hK.out _ _ trivial (fun _ => ?_)
       clear hK K
       try simp only [Act.put, q0, q1, q2]
       refine rT 6 (some 16) ?_
       try simp only [Act.put, q0, q1, q2]
       refine rR1 7 none (fun K hK => ?_)
       obtain ⟨l0, c00, f00⟩ := cells1 (C97.out.m.b 0 rfl)
       obtain ⟨w98, HW⟩ : ∃ q, Hid (q = (w97.setCell ⟨X, 0, none⟩ (.slice p9 N9 c9))) := ⟨_, Lib.hid rfl⟩
       have C98 := Lib.hid (C97.out.mm (W' := w98) (C97.out.m.set 0 rfl (by rw [HW.out]; exact gr_set w97 X 0 (.slice p9 N9 c9)) (by rw [HW.out]; exact (heap_set (j := 0) (.slice p9 N9 c9) (C97.out.m.b 0 rfl)))))
       go_simp
       refine hK.out _ _ trivial (fun _ => ?_)
       clear hK K
       try simp only [Act.put, q0, q1, q2]
       refine wpAnyH_done (by kernel_rfl) ?_ _
       rw [← HW.out]
       clear HW C97 l0 c00 f00
       have C99 := Lib.hid (C98.out.spc (fun f ts => by rw [← map_snoc (Prod.fst : CT → Tr.C) tr ((c1, .slice px1 Nx1 cx1, .slice py1 Ny1 cy1) : CT)]))
       clear C98
       go_wp2_with fail
       have HL9 : Hid ((tr ++ [((c1, .slice px1 Nx1 cx1, .slice py1 Ny1 cy1) : CT)]).length ≤ k1) := Lib.hid (by have h1 := HLN.out; simp only [List.length_append, List.length_cons, List.length_nil]; omega)
       go_roundg (n - k1)
       case measure => omega
       case rel => exact ⟨k1, p9, N9, c9, _, rfl, by omega, by omega, HL9, C99⟩
     ·go_wp2_with fail
      exact ⟨rfl, HB.out.prg⟩
   ·clear C65
    obtain ⟨l0, c00, f00⟩ := cells1 (C83.out.m.b 0 rfl)
    obtain ⟨l1, c10, f10⟩ := cells1 (C83.out.m.b 1 rfl)
    go_wp2_with fail
    have C100 := Lib.hid (C83.out.mm (C83.out.m.set 1 rfl (gr_set _ _ 0 (.slice p N c)) (heap_set (j := 0) (.slice p N c) (C83.out.m.b 1 rfl))))
    refine bodyPost_ret (v := .agg #[.slice p N c]) (results_cell_row Tryz.results25 _ _ w.heap.size _ _ _ _ rfl (C100.out.m.b 1 rfl) Tryz.underlying25 rfl (by kernel_rfl)) rfl ?_
    exact ⟨C100.out.m.gr, .inl ⟨tr.map Prod.fst, _, k', C100.out.ev, rfl, C100.out.m.vo 0 rfl, HREC.out, HI82.out, hltk, C100.out.ps⟩⟩
end Go.Proofs.YtdckddkalgnlpaaGreatDoor
namespace Go.Proofs.YtdckddkalgnlpaaGreatDoor
theorem scanF_last (n : Nat) : ∀ (f : Nat) (l : List UInt8) (ts : List Lex.Tok), Lex.scanF n f l = .toks ts → ts = ts.dropLast ++ [⟨0, [], 0, n⟩]
 | f, [], ts, h => by rw [Lex.scanF_nil] at h; cases h; rfl
 | 0, _ :: _, ts, h => by cases h
 | f + 1, c :: r, ts, h => by
   cases hn : Lex.next (c :: r) with
   | bad e => rw [Lex.scanF_bad hn] at h; cases h
   | tok k t v =>
     have h2 := Lex.scanF_tok (n := n) (f := f) hn []
     rw [Lex.pre_nil, h] at h2
     cases hs : Lex.scanF n f (Lex.skip false ((c :: r).drop t.length)) with
     | bad a e => rw [hs] at h2; cases h2
     | toks l =>
       have ih := scanF_last n f _ l hs
       have hne := scanF_ne n f _ l hs
       rw [hs] at h2; cases h2
       obtain ⟨u, us, rfl⟩ := List.exists_cons_of_ne_nil hne
       simp only [List.nil_append, List.cons_append, List.dropLast_cons_cons] at ih ⊢
       rw [← ih]
theorem scan_last {a : List UInt8} {ts : List Lex.Tok} (h : Lex.scan a = .toks ts) : ts = ts.dropLast ++ [⟨0, [], 0, a.length⟩] := by
 unfold Lex.scan at h
 split at h
 ·cases h
 ·exact scanF_last _ _ _ _ h
end Go.Proofs.YtdckddkalgnlpaaGreatDoor
namespace Go.Proofs.YtdckddkalgnlpaaGreatDoor
open Pw
def GoodTok (n : Nat) (t : Lex.Tok) : Prop := t.pos ≤ n ∧ t.val ≤ 2305843009213693951 ∧ t.kind ≤ 5 ∧ t.text.length ≤ n ∧ (t.kind = 4 → t.text ≠ [61])
theorem next_good {c : UInt8} {r : List UInt8} {k : Nat} {t : List UInt8} {v : Nat} (h : Lex.next (c :: r) = .tok k t v) : 1 ≤ k ∧ k ≤ 5 ∧ v ≤ 2305843009213693951 ∧ t.length ≤ (c :: r).length ∧ (k = 4 → t ≠ [61]) := by
 have hw : ∀ p : UInt8 → Bool, ((c :: r).takeWhile p).length ≤ (c :: r).length := fun p => (List.takeWhile_prefix p).length_le
 unfold Lex.next at h
 split at h
 ·unfold Lex.nameAt at h
  simp only at h
  split at h
  ·cases h
  ·split at h
   ·rename_i hk
    cases h
    refine ⟨by decide, by decide, by decide, hw _, fun _ e => ?_⟩
    rw [e] at hk
    exact absurd hk (by decide)
   ·split at h
    ·cases h
     exact ⟨by decide, by decide, by decide, hw _, fun e => absurd e (by decide)⟩
    ·cases h
     exact ⟨by decide, by decide, by decide, hw _, fun e => absurd e (by decide)⟩
 ·split at h
  ·unfold Lex.numberAt at h
   simp only at h
   split at h
   ·cases h
   ·split at h
    ·cases h
    ·split at h
     ·cases h
     ·rename_i hv
      cases h
      exact ⟨by decide, by decide, by omega, hw _, fun e => absurd e (by decide)⟩
  ·unfold Lex.symbolAt at h
   split at h
   ·cases h
    exact ⟨by decide, by decide, by decide, List.length_take_le' _ _, fun e => absurd e (by decide)⟩
   ·split at h
    ·cases h
     exact ⟨by decide, by decide, by decide, List.length_take_le' _ _, fun e => absurd e (by decide)⟩
    ·cases h
theorem scanF_good (n : Nat) : ∀ (f : Nat) (l : List UInt8) (ts : List Lex.Tok), l.length ≤ n → Lex.scanF n f l = .toks ts → ts.length ≤ f + 1 ∧ (∀ t ∈ ts, GoodTok n t) ∧ ∀ j t, j + 1 < ts.length → ts[j]? = some t → t.kind ≠ 0
 | f, [], ts, _, h => by
   rw [Lex.scanF_nil] at h
   cases h
   refine ⟨by simp, fun t ht => ?_, fun j t hj => by simp at hj⟩
   rw [List.mem_singleton.1 ht]
   exact ⟨Nat.le_refl _, Nat.zero_le _, by show (0 : Nat) ≤ 5; decide, Nat.zero_le _, fun e => absurd (show (0 : Nat) = 4 from e) (by decide)⟩
 | 0, _ :: _, ts, _, h => by cases h
 | f + 1, c :: r, ts, hl, h => by
   cases hn : Lex.next (c :: r) with
   | bad e => rw [Lex.scanF_bad hn] at h; cases h
   | tok k t v =>
     have h2 := Lex.scanF_tok (n := n) (f := f) hn []
     rw [Lex.pre_nil, h] at h2
     cases hs : Lex.scanF n f (Lex.skip false ((c :: r).drop t.length)) with
     | bad a e => rw [hs] at h2; cases h2
     | toks l =>
       have hlen := Lex.skip_le false ((c :: r).drop t.length)
       rw [List.length_drop] at hlen
       obtain ⟨i1, i2, i3⟩ := scanF_good n f _ l (by omega) hs
       obtain ⟨g1, g2, g3, g4, g5⟩ := next_good hn
       rw [hs] at h2
       cases h2
       rw [List.nil_append, List.singleton_append]
       refine ⟨by rw [List.length_cons]; omega, fun u hu => ?_, fun j u hj hu => ?_⟩
       ·rcases List.mem_cons.1 hu with rfl | hu
        ·exact ⟨Nat.sub_le _ _, g3, g2, by show t.length ≤ n; omega, g5⟩
        ·exact i2 u hu
       ·cases j with
        | zero =>
          rw [List.getElem?_cons_zero] at hu
          cases hu
          show k ≠ 0
          omega
        | succ j =>
          rw [List.getElem?_cons_succ] at hu
          rw [List.length_cons] at hj
          exact i3 j u (by omega) hu
theorem scan_tkl {s : List UInt8} {ts : List Lex.Tok} (h : Lex.scan s = .toks ts) : Pa.TkL ts (ts.length - 1) ∧ NoEq ts ∧ 0 < ts.length ∧ ts.length ≤ 16385 := by
 have hlast := scan_last h
 have hs : s.length ≤ 16384 := by
  unfold Lex.scan at h
  split at h
  ·cases h
  ·omega
 have h' : Lex.scanF s.length s.length (Lex.skip false s) = .toks ts := by
  unfold Lex.scan at h
  split at h
  ·cases h
  ·exact h
 obtain ⟨h1, h2, h3⟩ := scanF_good s.length s.length _ ts (Lex.skip_le false s) h'
 have hpos : 0 < ts.length := by rw [hlast]; simp
 refine ⟨⟨by omega, ?_, fun j t hj ht => h3 j t (by omega) ht, fun t ht => ?_, by omega⟩, fun t ht => (h2 t ht).2.2.2.2, hpos, by omega⟩
 ·refine ⟨s.length, ?_⟩
  rw [hlast]
  simp
 ·obtain ⟨a, b, c, d, _⟩ := h2 t ht
  exact ⟨by omega, by omega, by omega, by omega⟩
end Go.Proofs.YtdckddkalgnlpaaGreatDoor
namespace Go.Proofs.YtdckddkalgnlpaaGreatDoor
open Go.RowKit Go.Maps Pw
theorem tassert (p : Int) (w : World) : (Instr.typeAssert (.iface 100 (.int .i64 p)) 20 100 true).run Tryz.prog w = .ok (.tuple #[.int .i64 p, .bool true]) w := by kernel_rfl
theorem alloc3 (w : World) (o1 o2 o3 : Obj) : (((w.alloc o1).alloc o2).alloc o3).heap[w.heap.size]? = some o1 ∧ (((w.alloc o1).alloc o2).alloc o3).heap[w.heap.size + 1]? = some o2 ∧ (((w.alloc o1).alloc o2).alloc o3).heap[w.heap.size + 2]? = some o3 ∧ Below w.heap.size w (((w.alloc o1).alloc o2).alloc o3) ∧ (((w.alloc o1).alloc o2).alloc o3).heap.size = w.heap.size + 3 := by
 have h1 := below_box w o1
 have h2 := below_box (w.alloc o1) o2
 have h3 := below_box ((w.alloc o1).alloc o2) o3
 have n1 := new_at (w := w) (o := o1) rfl
 have n2 := new_at (w := w.alloc o1) (o := o2) (n := w.heap.size + 1) (by simp)
 have n3 := new_at (w := (w.alloc o1).alloc o2) (o := o3) (n := w.heap.size + 2) (by simp)
 have hb := below_next h1 (below_next h2 h3)
 exact ⟨(h3.block _ (lt_of_block ((h2.block _ (lt_of_block n1)).trans n1))).trans ((h2.block _ (lt_of_block n1)).trans n1), (h3.block _ (lt_of_block n2)).trans n2, n3, hb, by simp⟩
set_option maxRecDepth 100000 in
set_option maxHeartbeats 4000000 in
theorem catchP_fail (A B C : Nat) (v0 : Value) (o er : Int) (p : Nat) (older : List PanicEntry) (w : World) (hA0 : w.cell? ⟨A, 0, none⟩ = some v0) (hz0 : w.frozen? ⟨A, 0, none⟩ = false) (hB : w.cell? ⟨B, 0, none⟩ = some (.int .i64 o)) (hBz : w.frozen? ⟨B, 0, none⟩ = false) (hC : w.cell? ⟨C, 0, none⟩ = some (.int .i64 er)) (hCz : w.frozen? ⟨C, 0, none⟩ = false) (hAB : A ≠ B) (hAC : A ≠ C) (hBC : B ≠ C) :
 CallsD Tryz.prog 56 #[.pointer (some ⟨A, 0, none⟩), .pointer (some ⟨B, 0, none⟩), .pointer (some ⟨C, 0, none⟩)] (.panicking ({ v := .iface 100 (.int .i64 p), recovered := false } :: older)) w fun e u' w' =>
  e = .returned (.tuple #[]) ∧ u' = .panicking ({ v := .iface 100 (.int .i64 p), recovered := true } :: older) ∧ w' = (((w.setCell ⟨A, 0, none⟩ (.slice none 0 0)).setCell ⟨B, 0, none⟩ (.int .i64 p)).setCell ⟨C, 0, none⟩ (.int .i64 3)).alloc (.cells #[.slice none 0 0] 25) := by
 refine callsD_of_wpS Tryz.func56 rfl fun c₀ cs hu => ?_
 apply wpS_seq
 apply wpS_region
 simp [wpOpsS, go_sem, recoverD, hu, Tryz.ntmps56, Exit.thenS]
 refine wpS_of_wp ?_
 have hta := tassert
 have a1 := cell_lt' hA0
 have a2 := cell_lt' hB
 have a3 := cell_lt' hC
 go_wp2
 simp [bodyPostS, results, Tryz.results56]
set_option maxRecDepth 100000 in
theorem catchP_idle (A B C : Nat) (w : World) :
 CallsD Tryz.prog 56 #[.pointer (some ⟨A, 0, none⟩), .pointer (some ⟨B, 0, none⟩), .pointer (some ⟨C, 0, none⟩)] .returning w fun e u' w' => e = .returned (.tuple #[]) ∧ u' = .returning ∧ w' = w := by
 refine callsD_of_wpS Tryz.func56 rfl fun c₀ cs hu => ?_
 apply wpS_seq
 apply wpS_region
 simp [wpOpsS, go_sem, recoverD, hu, Tryz.ntmps56, Exit.thenS]
 refine wpS_of_wp ?_
 go_wp2
 cases c₀
 simp_all [bodyPostS, results, Tryz.results56]
set_option maxRecDepth 100000 in
set_option maxHeartbeats 4000000 in
theorem catchE_fail (A B C : Nat) (v0 v1 v2 v3 v4 v5 : Value) (o er : Int) (p : Nat) (older : List PanicEntry) (w : World) (hA0 : w.cell? ⟨A, 0, none⟩ = some v0) (hz0 : w.frozen? ⟨A, 0, none⟩ = false) (hA1 : w.cell? ⟨A, 1, none⟩ = some v1) (hz1 : w.frozen? ⟨A, 1, none⟩ = false) (hA2 : w.cell? ⟨A, 2, none⟩ = some v2) (hz2 : w.frozen? ⟨A, 2, none⟩ = false) (hA3 : w.cell? ⟨A, 3, none⟩ = some v3) (hz3 : w.frozen? ⟨A, 3, none⟩ = false) (hA4 : w.cell? ⟨A, 4, none⟩ = some v4) (hz4 : w.frozen? ⟨A, 4, none⟩ = false) (hA5 : w.cell? ⟨A, 5, none⟩ = some v5) (hz5 : w.frozen? ⟨A, 5, none⟩ = false) (hB : w.cell? ⟨B, 0, none⟩ = some (.int .i64 o)) (hBz : w.frozen? ⟨B, 0, none⟩ = false) (hC : w.cell? ⟨C, 0, none⟩ = some (.int .i64 er)) (hCz : w.frozen? ⟨C, 0, none⟩ = false) (hAB : A ≠ B) (hAC : A ≠ C) (hBC : B ≠ C) :
 CallsD Tryz.prog 69 #[.pointer (some ⟨A, 0, none⟩), .pointer (some ⟨B, 0, none⟩), .pointer (some ⟨C, 0, none⟩)] (.panicking ({ v := .iface 100 (.int .i64 p), recovered := false } :: older)) w fun e u' w' =>
  e = .returned (.tuple #[]) ∧ u' = .panicking ({ v := .iface 100 (.int .i64 p), recovered := true } :: older) ∧ w' = ((((((((w.setCell ⟨A, 0, none⟩ (.int .i64 0)).setCell ⟨A, 1, none⟩ (.int .i64 0)).setCell ⟨A, 2, none⟩ (.int .i64 0)).setCell ⟨A, 3, none⟩ (.string ⟨#[]⟩)).setCell ⟨A, 4, none⟩ (.bool false)).setCell ⟨A, 5, none⟩ (.slice none 0 0)).setCell ⟨B, 0, none⟩ (.int .i64 p)).setCell ⟨C, 0, none⟩ (.int .i64 3)).alloc (.cells #[.int .i64 0, .int .i64 0, .int .i64 0, .string ⟨#[]⟩, .bool false, .slice none 0 0] 33) := by
 refine callsD_of_wpS Tryz.func69 rfl fun c₀ cs hu => ?_
 apply wpS_seq
 apply wpS_region
 simp [wpOpsS, go_sem, recoverD, hu, Tryz.ntmps69, Exit.thenS]
 refine wpS_of_wp ?_
 have hta := tassert
 have a1 := cell_lt' hA0
 have a2 := cell_lt' hB
 have a3 := cell_lt' hC
 go_wp2
 simp [bodyPostS, results, Tryz.results69]
set_option maxRecDepth 100000 in
theorem catchE_idle (A B C : Nat) (w : World) :
 CallsD Tryz.prog 69 #[.pointer (some ⟨A, 0, none⟩), .pointer (some ⟨B, 0, none⟩), .pointer (some ⟨C, 0, none⟩)] .returning w fun e u' w' => e = .returned (.tuple #[]) ∧ u' = .returning ∧ w' = w := by
 refine callsD_of_wpS Tryz.func69 rfl fun c₀ cs hu => ?_
 apply wpS_seq
 apply wpS_region
 simp [wpOpsS, go_sem, recoverD, hu, Tryz.ntmps69, Exit.thenS]
 refine wpS_of_wp ?_
 go_wp2
 cases c₀
 simp_all [bodyPostS, results, Tryz.results69]
def Pa.pX (f : Nat) (ts : Pa.Toks) : Pa.R Tr.E := (Pa.pE f 0 ts).bind fun e r => if r = [] then .ok e [] else .bad r
theorem inc_set {B b j : Nat} {v : Value} {W : World} (h : b < B) : Inc (hide (upL B []) W) (hide (upL B []) (W.setCell ⟨b, j, none⟩ v)) := up_step (gr_set W b j v) (fun q hq => .inl (by injection hq; omega)) (fun _ _ h => h)
theorem pC_bad {L : List Lex.Tok} {n k : Nat} (hL : Pa.TkL L n) (hk : k ≤ n) (ha : Pa.is [97, 99, 116, 111, 114] (Pa.rest L n k) = false) (hr : Pa.is [114, 101, 99, 111, 114, 100] (Pa.rest L n k) = false) (f : Nat) : Pa.pC f (Pa.rest L n k) = .bad (Pa.rest L n k) := by
 unfold Pa.pC
 rw [ha, if_neg (by decide), Pa.expect_at hL hk, hr, if_neg (by decide)]
 rfl
def RunP (w : World) (ts : List Lex.Tok) (e : Ending) (w' : World) : Prop := Below w.heap.size w w' ∧
 ((∃ cs v, Pa.Ev (fun f => Pa.pP f [] (Pa.rest ts (ts.length - 1) 0)) (.ok cs []) ∧ e = .returned (.tuple #[.agg #[v], .int .i64 0, .int .i64 0]) ∧ SlC (hide (upL w.heap.size []) w') v cs) ∨
  (∃ k t, Pa.Ev (fun f => Pa.pP f [] (Pa.rest ts (ts.length - 1) 0)) (.bad (Pa.rest ts (ts.length - 1) k)) ∧ k ≤ ts.length - 1 ∧ ts[k]? = some t ∧ e = .returned (.tuple #[.agg #[.slice none 0 0], .int .i64 t.pos, .int .i64 3])))
def RunE (w : World) (ts : List Lex.Tok) (e : Ending) (w' : World) : Prop := Below w.heap.size w w' ∧
 ((∃ x v, Pa.Ev (fun f => Pa.pX f (Pa.rest ts (ts.length - 1) 0)) (.ok x []) ∧ e = .returned (.tuple #[v, .int .i64 0, .int .i64 0]) ∧ rdE (hide (upL w.heap.size []) w') v x) ∨
  (∃ k t, Pa.Ev (fun f => Pa.pX f (Pa.rest ts (ts.length - 1) 0)) (.bad (Pa.rest ts (ts.length - 1) k)) ∧ k ≤ ts.length - 1 ∧ ts[k]? = some t ∧ e = .returned (.tuple #[.agg #[.int .i64 0, .int .i64 0, .int .i64 0, .string ⟨#[]⟩, .bool false, .slice none 0 0], .int .i64 t.pos, .int .i64 3])))
theorem scan_toks2 (s : ByteArray) (ts : List Lex.Tok) (w : World) (hE : LexEnv w) (hs : s.size ≤ 16384) (h : Lex.scan s.data.toList = .toks ts) (hne : ts ≠ []) :
 Calls Tryz.prog 16 #[.string s] w fun e w' => ∃ g cap, e = .returned (.tuple #[.slice (some ⟨g, 0, none⟩) ts.length cap, .int .i64 0, .int .i64 0]) ∧ ts.length ≤ cap ∧ ToksAt w' g ts ∧ w.heap.size ≤ g ∧ g < w'.heap.size ∧ Below w.heap.size w w' := by
 refine (scan_any s w hE (by omega)).mono ?_
 rintro e w' (⟨a, er, hb, _⟩ | ⟨us, v, ht, rfl, hown, hbel⟩)
 ·rw [h] at hb; cases hb
 ·rw [h] at ht; cases ht
  obtain ⟨g, cap, rfl, hc, hta, h1, h2⟩ := toks_of_own hown hne
  exact ⟨g, cap, rfl, hc, hta, h1, h2, hbel⟩
structure ABC (w : World) (va : Array Value) (ta : TypeId) (o e : Int) (W : World) : Prop where
 a : W.heap[w.heap.size]? = some (.cells va ta (0, 0))
 b : W.heap[w.heap.size + 1]? = some (.cells #[.int .i64 o] 3 (0, 0))
 c : W.heap[w.heap.size + 2]? = some (.cells #[.int .i64 e] 26 (0, 0))
 gr : w.grownBy W none
section
variable {w W W' : World} {va : Array Value} {ta : TypeId} {o e : Int}
theorem ABC.start (w : World) (va : Array Value) (ta : TypeId) : ∃ W, Hid (W = ((w.alloc (.cells va ta)).alloc (.cells #[.int .i64 0] 3)).alloc (.cells #[.int .i64 0] 26)) ∧ Hid (ABC w va ta 0 0 W) := by
 obtain ⟨h1, h2, h3, h4, _⟩ := alloc3 w (.cells va ta) (.cells #[.int .i64 0] 3) (.cells #[.int .i64 0] 26)
 exact ⟨_, Lib.hid rfl, Lib.hid ⟨h1, h2, h3, gr_below h4 none⟩⟩
theorem ABC.lt (h : ABC w va ta o e W) : w.heap.size + 2 < W.heap.size := lt_of_block h.c
theorem ABC.keep (h : ABC w va ta o e W) {row : Option Nat} (hg : W.grownBy W' row) (hr : ∀ q, row = some q → w.heap.size + 2 < q) : ABC w va ta o e W' :=
 ⟨gr_at hg h.a (fun e => by have := hr _ e.symm; omega), gr_at hg h.b (fun e => by have := hr _ e.symm; omega), gr_at hg h.c (fun e => by have := hr _ e.symm; omega), gr_row h.gr hg (fun q hq => by have := hr q hq; omega)⟩
theorem ABC.setA (h : ABC w va ta o e W) {va' : Array Value} (hg : W.grownBy W' (some w.heap.size)) (ha : W'.heap[w.heap.size]? = some (.cells va' ta (0, 0))) : ABC w va' ta o e W' :=
 ⟨ha, gr_at hg h.b (ne_sm (by omega)), gr_at hg h.c (ne_sm (by omega)), gr_row h.gr hg (fun q hq => by injection hq; omega)⟩
theorem ABC.setB (h : ABC w va ta o e W) (o' : Int) : ABC w va ta o' e (W.setCell ⟨w.heap.size + 1, 0, none⟩ (.int .i64 o')) :=
 ⟨gr_at (gr_set _ _ _ _) h.a (ne_sm (by omega)), heap_set (j := 0) (.int .i64 o') h.b, gr_at (gr_set _ _ _ _) h.c (ne_sm (by omega)), gr_row h.gr (gr_set _ _ _ _) (fun q hq => by injection hq; omega)⟩
theorem ABC.setC (h : ABC w va ta o e W) (e' : Int) : ABC w va ta o e' (W.setCell ⟨w.heap.size + 2, 0, none⟩ (.int .i64 e')) :=
 ⟨gr_at (gr_set _ _ _ _) h.a (ne_sm (by omega)), gr_at (gr_set _ _ _ _) h.b (ne_sm (by omega)), heap_set (j := 0) (.int .i64 e') h.c, gr_row h.gr (gr_set _ _ _ _) (fun q hq => by injection hq; omega)⟩
theorem ABC.below (h : ABC w va ta o e W) : Below w.heap.size w W := gr_fresh h.gr
end
theorem rR3 {P : Program} {ops : Array Oper} {Q : Exit → Act → World → Prop} {md : Region.Mode} {S : World → Prop} {fuel : Nat} {listed : Array Bool} {a : Act} {w : World} {x1 y1 z1 : Op} {x2 y2 z2 : TypeId} {x3 y3 z3 : String} {x4 y4 z4 : Array Edge} {x5 y5 z5 : Option (Nat × Bool)} (i : Nat) (d : Option Nat) (j : Nat) (d' : Option Nat) (k : Nat) (d'' : Option Nat)
 (h : ∀ K' : Act → World → Prop, Shut (∀ a w, S w → (S w → wpAnyH P md ops Q S fuel (listed.setIfInBounds i true) a w) → K' a w) → if Region.wanted ⟨d, x1, x2, x3, x4, x5⟩ (yielded ops a.tmps) = true then Oper.wp P ⟨d, x1, x2, x3, x4, x5⟩ a w K' Q else K' (a.put d undef) w)
 (h' : ∀ K' : Act → World → Prop, Shut (∀ a w, S w → (S w → wpAnyH P md ops Q S fuel (listed.setIfInBounds j true) a w) → K' a w) → if Region.wanted ⟨d', y1, y2, y3, y4, y5⟩ (yielded ops a.tmps) = true then Oper.wp P ⟨d', y1, y2, y3, y4, y5⟩ a w K' Q else K' (a.put d' undef) w)
 (h'' : ∀ K' : Act → World → Prop, Shut (∀ a w, S w → (S w → wpAnyH P md ops Q S fuel (listed.setIfInBounds k true) a w) → K' a w) → if Region.wanted ⟨d'', z1, z2, z3, z4, z5⟩ (yielded ops a.tmps) = true then Oper.wp P ⟨d'', z1, z2, z3, z4, z5⟩ a w K' Q else K' (a.put d'' undef) w)
 (hr : Region.ready md ops listed = [i, j, k] := by kernel_rfl) (hi : ops[i]? = some ⟨d, x1, x2, x3, x4, x5⟩ := by rfl) (hj : ops[j]? = some ⟨d', y1, y2, y3, y4, y5⟩ := by rfl) (hk : ops[k]? = some ⟨d'', z1, z2, z3, z4, z5⟩ := by rfl) : wpAnyH P md ops Q S (fuel + 1) listed a w :=
 wpAnyH_ready hr (by simp) (AllReadyH.cons hi h (AllReadyH.cons hj h' (AllReadyH.cons hk h'' AllReadyH.nil)))
theorem set_same {W : World} {b j : Nat} {cs : Array Value} {t : TypeId} {v : Value} (h : W.heap[b]? = some (.cells cs t (0, 0))) (hv : cs[j]? = some v) : W.setCell ⟨b, j, none⟩ v = W := by
 have e : (W.setCell ⟨b, j, none⟩ v).heap = W.heap := by
  refine Array.ext_getElem? fun i => ?_
  by_cases hi : i = b
  ·subst hi
   rw [heap_set (j := j) v h, h]
   have e2 : cs.setIfInBounds j v = cs := by
    refine Array.ext_getElem? fun q => ?_
    rw [Array.getElem?_setIfInBounds]
    split
    ·rename_i hq
     subst hq
     split
     ·exact hv.symm
     ·rename_i hs
      rw [Array.getElem?_eq_none (by omega)] at hv
      cases hv
    ·rfl
   rw [e2]
  ·exact heap_setCell_other W ⟨b, j, none⟩ i v hi
 show { W with heap := (W.setCell ⟨b, j, none⟩ v).heap } = W
 rw [e]
end Go.Proofs.YtdckddkalgnlpaaGreatDoor
