/-
  The reference's simple, walked.
-/
import Derived.Test.YtdckddkalgnlpaaGreatDoorA21
import Derived.Test.YtdckddkalgnlpaaGreatDoorA22
namespace Go.Proofs.YtdckddkalgnlpaaGreatDoor
open Go.RowKit Go.Maps Pw
theorem RX.succ {α : Type} {L : List Lex.Tok} {n tbk tc P k : Nat} {b : Bool} {p : Nat → Pa.Toks → Pa.R α} {rd : World → Value → α → Prop} {X : α → Nat → Bool → Prop} {w w' : World} {e : Ending} (h : RX L n tbk tc P k b p rd X w e w') : RX L n tbk tc P k b (fun f ts => p (f + 1) ts) rd X w e w' := by
 obtain ⟨a, v, k', b', h1, h2, h3, h4, hev, h⟩ := h
 refine ⟨a, v, k', b', h1, h2, h3, h4, ?_, h⟩
 cases b with
 | true => exact hev
 | false => exact Pa.Ev.succ (p := fun f => p f (Pa.rest L n k)) hev
def Pa.stoQ (f : Nat) (a : Tr.E) (r : Pa.Toks) : Pa.R Tr.S := (Pa.expect [46] r).bind fun _ r => (Pa.word 2 r).bind fun n r => (Pa.expect [61] r).bind fun _ r => (Pa.pE f 0 r).bind fun b r => .ok (.mk 2 n [a, b] [] []) r
theorem pSimple_r (f : Nat) (ts : Pa.Toks) : Pa.pSimple f ts = Pa.opt [108, 101, 116] (fun r => (Pa.word 2 r).bind fun n r => (Pa.expect [61] r).bind fun _ r => (Pa.pE f 0 r).bind fun e r => .ok (.mk 0 n [e] [] []) r) (Pa.opt [115, 101, 110, 100] (fun r => (Pa.pO f r).bind fun a r => (Pa.expect [46] r).bind fun _ r => (Pa.word 2 r).bind fun n r => Pa.pSend f a n r) (Pa.opt [112, 114, 105, 110, 116] (fun r => (Pa.pE f 0 r).bind fun e r => .ok (.mk 6 ⟨#[]⟩ [e] [] []) r)
 (Pa.opt [109, 111, 118, 101] (fun r => (Pa.pE f 0 r).bind fun a r => (Pa.expect [116, 111] r).bind fun _ r => (Pa.pE f 0 r).bind fun b r => .ok (.mk 7 ⟨#[]⟩ [a, b] [] []) r)
 (Pa.opt [119, 97, 116, 99, 104] (fun r => (Pa.pE f 0 r).bind fun a r => (Pa.expect [98, 121] r).bind fun _ r => (Pa.word 2 r).bind fun n r => (Pa.expect [40] r).bind fun _ r => (Pa.pE f 0 r).bind fun b r => (Pa.expect [41] r).bind fun _ r => .ok (.mk 8 n [a, b] [] []) r)
 (Pa.opt [114, 101, 116, 117, 114, 110] (fun r => .ok (.mk 9 ⟨#[]⟩ [] [] []) r) fun r => if (r.headD default).kind = 2 ∧ Pa.is [61] r.tail = true then Pa.pSet f 1 r else (Pa.pO (f + 1) r).bind fun a r => Pa.stoQ f a r))))) ts := by
 unfold Pa.pSimple Pa.opt Pa.stoQ
 rfl
theorem asg_eq {L : List Lex.Tok} {n k : Nat} {t : Lex.Tok} (hlt : k < n) (ht : L[k]? = some t) (h2 : t.kind = 2) (f : Nat) : Pa.pSet f 1 (Pa.rest L n k) = (Pa.pO (f + 1) (Pa.rest L n k)).bind fun a r => Pa.opt [61] (fun r => (Pa.pE f 0 r).bind fun e r => .ok (.mk 1 a.name [e] [] []) r) (fun r => .bad r) r := by
 rw [pO_at hlt ht, if_neg (by omega), if_pos h2]
 unfold Pa.pSet
 rw [word_at hlt ht h2]
 unfold Pa.expect Pa.opt
 simp only [Pa.R.bind]
 cases Pa.is [61] (Pa.rest L n (k + 1)) <;> rfl
theorem pSendo (a : Tr.E) (nm : ByteArray) (f : Nat) (ts : Pa.Toks) : Pa.pSend (f + 1) a nm ts = Pa.opt [46] (fun r => (Pa.word 2 r).bind fun m r => Pa.pSend f (Pa.fld nm a) m r) (fun r => (Pa.pA f r).bind fun l r => .ok (.mk 5 nm (a :: l) [] []) r) ts := pSend_s f a nm ts
section
variable {β : Type} {L : List Lex.Tok} {n tbk tc P k0 k : Nat} {b : Bool} {w W W' : World} {p0 : Nat → Pa.R β} {bs : List Bk} {os : List Im} {G G' : Nat → Pa.Toks → Pa.R β}
theorem Cr.evb (h : Cr L n tbk tc P k0 w p0 k b bs os G W) (e : b = false → ∀ f, G f (Pa.rest L n k) = G' f (Pa.rest L n k)) : Cr L n tbk tc P k0 w p0 k b bs os G' W := by
 cases b with
 | true => exact h.dead
 | false => exact h.at0 (e rfl)
theorem Cr.takeY (s : ByteArray) (hs : s.data.toList ≠ []) {p q : Nat → Pa.Toks → Pa.R β} (hi : Pa.is s.data.toList (Pa.rest L n k) = true) (h : Cr L n tbk tc P k0 w p0 k false bs os (fun f ts => Pa.opt s.data.toList (p f) (q f) ts) W) :
 Calls Tryz.prog 64 #[.pointer (some ⟨P, 0, none⟩), .string s] W fun e W' => e = .returned (.bool true) ∧ Hid (Cr L n tbk tc P k0 w p0 (k + 1) false bs os p W') := by
 have hlt := Pa.is_lt h.le hi
 exact (accept_yes h.ps h.hL s hs hi).mono fun _ _ ⟨a, b, c⟩ => ⟨a, Lib.hid (h.passed hlt b c fun f => by unfold Pa.opt; rw [hi, if_pos rfl])⟩
end
set_option maxRecDepth 100000 in
set_option maxHeartbeats 40000000 in
theorem simpleR_any {L : List Lex.Tok} {n tbk tc P : Nat} (hL : Pa.TkL L n) (k : Nat) (b : Bool) (w : World) (hp : RS L n tbk tc P k b w) : Calls Tryz.prog 156 #[.pointer (some ⟨P, 0, none⟩)] w (RQ L n tbk tc P k b (fun f ts => Pa.pSimple f ts) rdS w) := by
 obtain ⟨t, ht⟩ := hL.get hp.le
 have HT := Lib.hid ht
 have hf1 := field1
 clear ht
 obtain ⟨w1, HW, C1⟩ := ((Cr.start hL hp (fun f ts => Pa.pSimple f ts)).spc pSimple_r).boxR #[.int .i64 0, .string ⟨#[]⟩, .slice none 0 0, .slice none 0 0, .slice none 0 0] 94
 clear hL hp
 go_enter Tryz.func156, Tryz.ntmps156
 go_upto_region 1 with fail
 rw [← HW.out]
 clear HW
 obtain ⟨X, w2, HX, HW, hx2, C2⟩ := C1.out.boxE #[.int .i64 0, .string ⟨#[]⟩, .slice none 0 0, .slice none 0 0, .slice none 0 0] 94
 go_wp2_with fail
 rw [← HX.out, ← HW.out]
 clear HX HW C1
 refine (C2.out.take ⟨#[108, 101, 116]⟩ (by decide)).mono ?_
 rintro e w3 (⟨rfl, hlt4, -, C3⟩ | ⟨rfl, C3⟩)
 ·clear C2
  go_wp2_with fail
  refine (C3.out.word 2 (by decide)).mono ?_
  rintro e w5 ⟨s1, z1, z2, z3, k1, b1, rfl, hsz1, hle1, hn1, C5⟩
  clear C3
  obtain ⟨l0, c00, f00, c01, f01, c02, f02, c03, f03, c04, f04⟩ := cells5 (C5.out.m.b 0 rfl)
  obtain ⟨w6, HW⟩ : ∃ q, Hid (q = (w5.setCell ⟨X, 1, none⟩ (.string s1))) := ⟨_, Lib.hid rfl⟩
  have C6 := Lib.hid (C5.out.mm (W' := w6) (C5.out.m.set 0 rfl (by rw [HW.out]; exact gr_set w5 X 1 (.string s1)) (by rw [HW.out]; exact (heap_set (j := 1) (.string s1) (C5.out.m.b 0 rfl)))))
  go_upto_region 4 with fail
  rw [← HW.out]
  clear HW C5 l0 c00 f00 c01 f01 c02 f02 c03 f03 c04 f04
  have C7 := Lib.hid (C6.out.nrm (bs' := [(X, #[.int .i64 0, .string s1, .slice none 0 0, .slice none 0 0, .slice none 0 0], 94), _]) rfl)
  clear C6
  go_wp2_with fail
  refine (C7.out.exp ⟨#[61]⟩ (by decide)).mono ?_
  rintro e w9 ⟨k8, b8, rfl, hle8, hn8, -, C9⟩
  clear C7
  go_wp2_with fail
  refine (C9.out.callE (exprR_any C9.out.hL _ _ _ C9.out.ps)).mono ?_
  rintro e w10 ⟨x2, p2, N2, c2, k2, b2, rfl, hlt2, hn2, -, C10⟩
  clear C9
  obtain ⟨l0, c00, f00, c01, f01, c02, f02, c03, f03, c04, f04⟩ := cells5 (C10.out.m.b 0 rfl)
  obtain ⟨G, HG⟩ : ∃ q, Hid (q = w10.heap.size) := ⟨_, Lib.hid rfl⟩
  obtain ⟨w11, HW⟩ : ∃ q, Hid (q = (w10.setCell ⟨X, 2, none⟩ (.slice (some ⟨G, 0, none⟩) 1 1)).alloc (.cells #[.int .i64 x2.kind, .int .i64 x2.op, .int .i64 x2.int, .string x2.name, .bool x2.at_, .slice p2 N2 c2] 33)) := ⟨_, Lib.hid rfl⟩
  have C11 := Lib.hid (C10.out.mm (W' := w11) (by rw [HW.out]; exact (C10.out.m.set 0 rfl (gr_set _ _ 2 (.slice (some ⟨G, 0, none⟩) 1 1)) (heap_set (j := 2) (.slice (some ⟨G, 0, none⟩) 1 1) (C10.out.m.b 0 rfl))).box (X := G) (by rw [HG.out]; simp) #[.int .i64 x2.kind, .int .i64 x2.op, .int .i64 x2.int, .string x2.name, .bool x2.at_, .slice p2 N2 c2] 33))
  go_upto_region 6 with fail
  rw [← HG.out, ← HW.out]
  clear HG HW C10 l0 c00 f00 c01 f01 c02 f02 c03 f03 c04 f04
  have C12 := Lib.hid (C11.out.nrm (bs' := [(G, #[.int .i64 x2.kind, .int .i64 x2.op, .int .i64 x2.int, .string x2.name, .bool x2.at_, .slice p2 N2 c2], 33), (X, #[.int .i64 0, .string s1, .slice (some ⟨G, 0, none⟩) 1 1, .slice none 0 0, .slice none 0 0], 94), _]) rfl)
  clear C11
  obtain ⟨l1, c10, f10, c11, f11, c12, f12, c13, f13, c14, f14⟩ := cells5 (C12.out.m.b 1 rfl)
  obtain ⟨l2, c20, f20, c21, f21, c22, f22, c23, f23, c24, f24⟩ := cells5 (C12.out.m.b 2 rfl)
  go_wp2_with fail
  exact C12.out.retS (x := .mk 0 s1 [x2] [] []) 2 rfl trivial Tryz.results156 rfl rfl (fun U b o => ⟨bd_stmt (k := 0) (by decide) hsz1, slE_blk1 (b 0 (by decide) rfl) (o 0 rfl).1 (o 0 rfl).2, .nil none 0, .nil none 0⟩)
 ·clear C2
  go_wp2_with fail
  refine (C3.out.take ⟨#[115, 101, 110, 100]⟩ (by decide)).mono ?_
  rintro e w13 (⟨rfl, hlt14, -, C13⟩ | ⟨rfl, C13⟩)
  ·clear C3
   obtain ⟨l0, c00, f00, c01, f01, c02, f02, c03, f03, c04, f04⟩ := cells5 (C13.out.m.b 0 rfl)
   obtain ⟨w15, HW⟩ : ∃ q, Hid (q = (w13.setCell ⟨X, 0, none⟩ (.int .i64 5))) := ⟨_, Lib.hid rfl⟩
   have C15 := Lib.hid (C13.out.mm (W' := w15) (C13.out.m.set 0 rfl (by rw [HW.out]; exact gr_set w13 X 0 (.int .i64 5)) (by rw [HW.out]; exact (heap_set (j := 0) (.int .i64 5) (C13.out.m.b 0 rfl)))))
   go_upto_region 9 with fail
   rw [← HW.out]
   clear HW C13 l0 c00 f00 c01 f01 c02 f02 c03 f03 c04 f04
   have C16 := Lib.hid (C15.out.nrm (bs' := [(X, #[.int .i64 5, .string ⟨#[]⟩, .slice none 0 0, .slice none 0 0, .slice none 0 0], 94), _]) rfl)
   clear C15
   go_wp2_with fail
   refine (C16.out.callE (operandR_any C16.out.hL _ _ _ C16.out.ps)).mono ?_
   rintro e w17 ⟨x1, p1, N1, c1, k1, b1, rfl, hlt1, hn1, -, C17⟩
   clear C16
   obtain ⟨A, w18, HX, HW, hx18, C18⟩ := C17.out.boxE #[.int .i64 x1.kind, .int .i64 x1.op, .int .i64 x1.int, .string x1.name, .bool x1.at_, .slice p1 N1 c1] 33
   go_upto_region 10 with fail
   rw [← HX.out, ← HW.out]
   clear HX HW C17
   go_wp2_with fail
   refine (C18.out.exp ⟨#[46]⟩ (by decide)).mono ?_
   rintro e w20 ⟨k19, b19, rfl, hle19, hn19, -, C20⟩
   clear C18
   go_wp2_with fail
   refine (C20.out.word 2 (by decide)).mono ?_
   rintro e w21 ⟨s2, z1, z2, z3, k2, b2, rfl, hsz2, hle2, hn2, C21⟩
   clear C20
   obtain ⟨l1, c10, f10, c11, f11, c12, f12, c13, f13, c14, f14⟩ := cells5 (C21.out.m.b 1 rfl)
   obtain ⟨w22, HW⟩ : ∃ q, Hid (q = (w21.setCell ⟨X, 1, none⟩ (.string s2))) := ⟨_, Lib.hid rfl⟩
   have C22 := Lib.hid (C21.out.mm (W' := w22) (C21.out.m.set 1 rfl (by rw [HW.out]; exact gr_set w21 X 1 (.string s2)) (by rw [HW.out]; exact (heap_set (j := 1) (.string s2) (C21.out.m.b 1 rfl)))))
   go_wp2_with fail
   rw [← HW.out]
   clear HW C21 l1 c10 f10 c11 f11 c12 f12 c13 f13 c14 f14
   have C23 := Lib.hid (C22.out.nrm (bs' := [_, (X, #[.int .i64 5, .string s2, .slice none 0 0, .slice none 0 0, .slice none 0 0], 94), _]) rfl)
   clear C22
   go_loopg [36] (n - k2) (fun gg s36 wr => ∃ (k' : Nat) (b' : Bool) (nm : ByteArray) (x : Tr.E) (p : Option Addr) (N c B : Nat), gg = n - k' ∧ k ≤ k' ∧ k' ≤ n ∧ nm.size ≤ maxLen ∧ Hid (Cr L n tbk tc P k w (fun f => Pa.mv b (fun f ts => Pa.pSimple f ts) (Pa.rest L n k) f) k' b' [(A, #[.int .i64 x.kind, .int .i64 x.op, .int .i64 x.int, .string x.name, .bool x.at_, .slice p N c], 33), (X, #[.int .i64 5, .string nm, .slice none 0 0, .slice none 0 0, .slice none 0 0], 94), (w.heap.size, #[.int .i64 0, .string ⟨#[]⟩, .slice none 0 0, .slice none 0 0, .slice none 0 0], 94)] [im B (fun U => ReadET U (x, .slice p N c))] (fun f ts => Pa.pSend f x nm ts) wr))
   case atStart => exact ⟨k2, b2, s2, x1, p1, N1, c1, _, rfl, by omega, by omega, hsz2, C23⟩
   case round =>
    clear C23
    obtain ⟨k', b', nm, x, p, N, c, B, rfl, hltk, hnk, hnm, CR⟩ := hrel
    have C24 := Lib.hid (CR.out.spec (pSendo x nm))
    clear CR
    go_wp2_with fail
    refine (C24.out.take ⟨#[46]⟩ (by decide)).mono ?_
    rintro e w25 (⟨rfl, hlt26, -, C25⟩ | ⟨rfl, C25⟩)
    ·clear C24
     obtain ⟨l0, c00, f00, c01, f01, c02, f02, c03, f03, c04, f04, c05, f05⟩ := cells6 (C25.out.m.b 0 rfl)
     obtain ⟨l1, c10, f10, c11, f11, c12, f12, c13, f13, c14, f14⟩ := cells5 (C25.out.m.b 1 rfl)
     obtain ⟨G, HG⟩ : ∃ q, Hid (q = w25.heap.size) := ⟨_, Lib.hid rfl⟩
     obtain ⟨w27, HW⟩ : ∃ q, Hid (q = ((((((w25.setCell ⟨A, 0, none⟩ (.int .i64 4)).setCell ⟨A, 1, none⟩ (.int .i64 0)).setCell ⟨A, 2, none⟩ (.int .i64 0)).setCell ⟨A, 3, none⟩ (.string nm)).setCell ⟨A, 4, none⟩ (.bool false)).setCell ⟨A, 5, none⟩ (.slice (some ⟨G, 0, none⟩) 1 1)).alloc (.cells #[.int .i64 x.kind, .int .i64 x.op, .int .i64 x.int, .string x.name, .bool x.at_, .slice p N c] 33)) := ⟨_, Lib.hid rfl⟩
     have C27 := Lib.hid (C25.out.mm (W' := w27) (by rw [HW.out]; exact (C25.out.m.set 0 rfl (gr_trans (gr_trans (gr_trans (gr_trans (gr_trans (gr_set _ A 0 (.int .i64 4)) (gr_set _ A 1 (.int .i64 0))) (gr_set _ A 2 (.int .i64 0))) (gr_set _ A 3 (.string nm))) (gr_set _ A 4 (.bool false))) (gr_set _ A 5 (.slice (some ⟨G, 0, none⟩) 1 1))) (heap_set (j := 5) (.slice (some ⟨G, 0, none⟩) 1 1) (heap_set (j := 4) (.bool false) (heap_set (j := 3) (.string nm) (heap_set (j := 2) (.int .i64 0) (heap_set (j := 1) (.int .i64 0) (heap_set (j := 0) (.int .i64 4) (C25.out.m.b 0 rfl)))))))).box (X := G) (by rw [HG.out]; simp) #[.int .i64 x.kind, .int .i64 x.op, .int .i64 x.int, .string x.name, .bool x.at_, .slice p N c] 33))
     go_upto_region 14 with fail
     rw [← HG.out, ← HW.out]
     clear HG HW C25 l0 c00 f00 c01 f01 c02 f02 c03 f03 c04 f04 c05 f05 l1 c10 f10 c11 f11 c12 f12 c13 f13 c14 f14
     have C28 := Lib.hid (C27.out.nrm (bs' := [(G, #[.int .i64 x.kind, .int .i64 x.op, .int .i64 x.int, .string x.name, .bool x.at_, .slice p N c], 33), (A, #[.int .i64 4, .int .i64 0, .int .i64 0, .string nm, .bool false, .slice (some ⟨G, 0, none⟩) 1 1], 33), _, _]) rfl)
     clear C27
     have D29 := Lib.hid (C28.out.mm (C28.out.m.fold (rd := fun U => ReadET U (Pa.fld nm x, .slice (some ⟨G, 0, none⟩) 1 1)) (mn_E _) (fun U b o => ⟨bd_fld hnm x, slE_blk1 b (o 0 rfl).1 (o 0 rfl).2⟩)))
     clear C28
     go_wp2_with fail
     refine (D29.out.word 2 (by decide)).mono ?_
     rintro e w30 ⟨s3, z1, z2, z3, k3, b3, rfl, hsz3, hle3, hn3, C30⟩
     clear D29
     obtain ⟨l1, c10, f10, c11, f11, c12, f12, c13, f13, c14, f14⟩ := cells5 (C30.out.m.b 1 rfl)
     obtain ⟨w31, HW⟩ : ∃ q, Hid (q = (w30.setCell ⟨X, 1, none⟩ (.string s3))) := ⟨_, Lib.hid rfl⟩
     have C31 := Lib.hid (C30.out.mm (W' := w31) (C30.out.m.set 1 rfl (by rw [HW.out]; exact gr_set w30 X 1 (.string s3)) (by rw [HW.out]; exact (heap_set (j := 1) (.string s3) (C30.out.m.b 1 rfl)))))
     go_wp2_with fail
     rw [← HW.out]
     clear HW C30 l1 c10 f10 c11 f11 c12 f12 c13 f13 c14 f14
     have C32 := Lib.hid (C31.out.nrm (bs' := [_, (X, #[.int .i64 5, .string s3, .slice none 0 0, .slice none 0 0, .slice none 0 0], 94), _]) rfl)
     clear C31
     go_roundg (n - k3)
     case measure => omega
     case rel => exact ⟨k3, b3, s3, Pa.fld nm x, _, _, _, _, rfl, by omega, by omega, hsz3, C32⟩
    ·clear C24
     go_upto_region 15 with fail
     obtain ⟨w33, HW, C33⟩ := C25.out.drewE
     refine wp_region_held_drew (S := fun _ => True) (by kernel_rfl) trivial (fun _ => ?_)
     rw [← HW.out]
     clear HW C25
     refine rT 2 (some 49) ?_
     try simp only [Act.put, q0, q1, q2]
     refine rR2 0 (some 47) 3 (some 50) (fun K hK => ?_) (fun K hK => ?_)
     ·obtain ⟨l0, c00, f00, c01, f01, c02, f02, c03, f03, c04, f04, c05, f05⟩ := cells6 (C33.out.m.b 0 rfl)
      go_simp
      refine hK.out _ _ trivial (fun _ => ?_)
      clear hK K
      try simp only [Act.put, q0, q1, q2]
      clear l0 c00 f00 c01 f01 c02 f02 c03 f03 c04 f04 c05 f05
      refine rR2 1 (some 48) 3 (some 50) (fun K hK => ?_) (fun K hK => ?_)
      ·obtain ⟨G, w34, HX, HW, hx34, C34⟩ := C33.out.boxE #[.int .i64 x.kind, .int .i64 x.op, .int .i64 x.int, .string x.name, .bool x.at_, .slice p N c] 33
       go_simp
       refine hK.out _ _ trivial (fun _ => ?_)
       clear hK K
       try simp only [Act.put, q0, q1, q2]
       rw [← HX.out, ← HW.out]
       clear HX HW C33
       refine rR1 3 (some 50) (fun K hK => ?_)
       go_simp
       refine (C34.out.callL (exprsR_any C34.out.hL _ _ _ C34.out.ps)).mono ?_
       rintro e w35 ⟨tr9, p9, N9, c9, k9, b9, rfl, HTL9, hlt9, hn9, -, C35⟩
       clear C34
       go_wp2_with fail
       refine hK.out _ _ trivial (fun _ => ?_)
       clear hK K
       try simp only [Act.put, q0, q1, q2]
       refine rR1 4 (some 51) (fun K hK => ?_)
       refine C35.out.appS tkE 1 rfl 0 rfl rfl HTL9.out (by rfl) _ _ (by rfl) (by rfl) (by rfl) ?_
       intro p8 N8 c8 w36 C36
       clear C35
       refine hK.out _ _ trivial (fun _ => ?_)
       clear hK K
       try simp only [Act.put, q0, q1, q2]
       refine rT 5 (some 52) ?_
       try simp only [Act.put, q0, q1, q2]
       refine rR1 6 none (fun K hK => ?_)
       obtain ⟨l1, c10, f10, c11, f11, c12, f12, c13, f13, c14, f14⟩ := cells5 (C36.out.m.b 1 rfl)
       obtain ⟨w37, HW⟩ : ∃ q, Hid (q = (w36.setCell ⟨X, 2, none⟩ (.slice p8 N8 c8))) := ⟨_, Lib.hid rfl⟩
       have C37 := Lib.hid (C36.out.mm (W' := w37) (C36.out.m.set 1 rfl (by rw [HW.out]; exact gr_set w36 X 2 (.slice p8 N8 c8)) (by rw [HW.out]; exact (heap_set (j := 2) (.slice p8 N8 c8) (C36.out.m.b 1 rfl)))))
       go_simp
       refine hK.out _ _ trivial (fun _ => ?_)
       clear hK K
       try simp only [Act.put, q0, q1, q2]
       refine wpAnyH_done (by kernel_rfl) ?_ _
       rw [← HW.out]
       clear HW C36 l1 c10 f10 c11 f11 c12 f12 c13 f13 c14 f14
       have C38 := Lib.hid (C37.out.nrm (bs' := [_, (X, #[.int .i64 5, .string nm, .slice p8 N8 c8, .slice none 0 0, .slice none 0 0], 94), _]) rfl)
       clear C37
       obtain ⟨l1, c10, f10, c11, f11, c12, f12, c13, f13, c14, f14⟩ := cells5 (C38.out.m.b 1 rfl)
       obtain ⟨l2, c20, f20, c21, f21, c22, f22, c23, f23, c24, f24⟩ := cells5 (C38.out.m.b 2 rfl)
       go_wp2_with fail
       exact C38.out.retS (x := .mk 5 nm (x :: tr9.map Prod.fst) [] []) 2 rfl trivial Tryz.results156 rfl rfl (fun U b o => ⟨bd_stmt (k := 5) (by decide) hnm, o 0 rfl, .nil none 0, .nil none 0⟩)
      ·go_simp
       refine (C33.out.callL (exprsR_any C33.out.hL _ _ _ C33.out.ps)).mono ?_
       rintro e w39 ⟨tr9, p9, N9, c9, k9, b9, rfl, HTL9, hlt9, hn9, -, C39⟩
       clear C33
       go_wp2_with fail
       refine hK.out _ _ trivial (fun _ => ?_)
       clear hK K
       try simp only [Act.put, q0, q1, q2]
       refine rR1 1 (some 48) (fun K hK => ?_)
       obtain ⟨G, w40, HX, HW, hx40, C40⟩ := C39.out.boxE #[.int .i64 x.kind, .int .i64 x.op, .int .i64 x.int, .string x.name, .bool x.at_, .slice p N c] 33
       go_simp
       refine hK.out _ _ trivial (fun _ => ?_)
       clear hK K
       try simp only [Act.put, q0, q1, q2]
       rw [← HX.out, ← HW.out]
       clear HX HW C39
       refine rR1 4 (some 51) (fun K hK => ?_)
       refine C40.out.appS tkE 1 rfl 0 rfl rfl HTL9.out (by rfl) _ _ (by rfl) (by rfl) (by rfl) ?_
       intro p8 N8 c8 w41 C41
       clear C40
       refine hK.out _ _ trivial (fun _ => ?_)
       clear hK K
       try simp only [Act.put, q0, q1, q2]
       refine rT 5 (some 52) ?_
       try simp only [Act.put, q0, q1, q2]
       refine rR1 6 none (fun K hK => ?_)
       obtain ⟨l1, c10, f10, c11, f11, c12, f12, c13, f13, c14, f14⟩ := cells5 (C41.out.m.b 1 rfl)
       obtain ⟨w42, HW⟩ : ∃ q, Hid (q = (w41.setCell ⟨X, 2, none⟩ (.slice p8 N8 c8))) := ⟨_, Lib.hid rfl⟩
       have C42 := Lib.hid (C41.out.mm (W' := w42) (C41.out.m.set 1 rfl (by rw [HW.out]; exact gr_set w41 X 2 (.slice p8 N8 c8)) (by rw [HW.out]; exact (heap_set (j := 2) (.slice p8 N8 c8) (C41.out.m.b 1 rfl)))))
       go_simp
       refine hK.out _ _ trivial (fun _ => ?_)
       clear hK K
       try simp only [Act.put, q0, q1, q2]
       refine wpAnyH_done (by kernel_rfl) ?_ _
       rw [← HW.out]
       clear HW C41 l1 c10 f10 c11 f11 c12 f12 c13 f13 c14 f14
       have C43 := Lib.hid (C42.out.nrm (bs' := [_, (X, #[.int .i64 5, .string nm, .slice p8 N8 c8, .slice none 0 0, .slice none 0 0], 94), _]) rfl)
       clear C42
       obtain ⟨l1, c10, f10, c11, f11, c12, f12, c13, f13, c14, f14⟩ := cells5 (C43.out.m.b 1 rfl)
       obtain ⟨l2, c20, f20, c21, f21, c22, f22, c23, f23, c24, f24⟩ := cells5 (C43.out.m.b 2 rfl)
       go_wp2_with fail
       exact C43.out.retS (x := .mk 5 nm (x :: tr9.map Prod.fst) [] []) 2 rfl trivial Tryz.results156 rfl rfl (fun U b o => ⟨bd_stmt (k := 5) (by decide) hnm, o 0 rfl, .nil none 0, .nil none 0⟩)
     ·go_simp
      refine (C33.out.callL (exprsR_any C33.out.hL _ _ _ C33.out.ps)).mono ?_
      rintro e w44 ⟨tr9, p9, N9, c9, k9, b9, rfl, HTL9, hlt9, hn9, -, C44⟩
      clear C33
      go_wp2_with fail
      refine hK.out _ _ trivial (fun _ => ?_)
      clear hK K
      try simp only [Act.put, q0, q1, q2]
      refine rR1 0 (some 47) (fun K hK => ?_)
      obtain ⟨l0, c00, f00, c01, f01, c02, f02, c03, f03, c04, f04, c05, f05⟩ := cells6 (C44.out.m.b 0 rfl)
      go_simp
      refine hK.out _ _ trivial (fun _ => ?_)
      clear hK K
      try simp only [Act.put, q0, q1, q2]
      clear l0 c00 f00 c01 f01 c02 f02 c03 f03 c04 f04 c05 f05
      refine rR1 1 (some 48) (fun K hK => ?_)
      obtain ⟨G, w45, HX, HW, hx45, C45⟩ := C44.out.boxE #[.int .i64 x.kind, .int .i64 x.op, .int .i64 x.int, .string x.name, .bool x.at_, .slice p N c] 33
      go_simp
      refine hK.out _ _ trivial (fun _ => ?_)
      clear hK K
      try simp only [Act.put, q0, q1, q2]
      rw [← HX.out, ← HW.out]
      clear HX HW C44
      refine rR1 4 (some 51) (fun K hK => ?_)
      refine C45.out.appS tkE 1 rfl 0 rfl rfl HTL9.out (by rfl) _ _ (by rfl) (by rfl) (by rfl) ?_
      intro p8 N8 c8 w46 C46
      clear C45
      refine hK.out _ _ trivial (fun _ => ?_)
      clear hK K
      try simp only [Act.put, q0, q1, q2]
      refine rT 5 (some 52) ?_
      try simp only [Act.put, q0, q1, q2]
      refine rR1 6 none (fun K hK => ?_)
      obtain ⟨l1, c10, f10, c11, f11, c12, f12, c13, f13, c14, f14⟩ := cells5 (C46.out.m.b 1 rfl)
      obtain ⟨w47, HW⟩ : ∃ q, Hid (q = (w46.setCell ⟨X, 2, none⟩ (.slice p8 N8 c8))) := ⟨_, Lib.hid rfl⟩
      have C47 := Lib.hid (C46.out.mm (W' := w47) (C46.out.m.set 1 rfl (by rw [HW.out]; exact gr_set w46 X 2 (.slice p8 N8 c8)) (by rw [HW.out]; exact (heap_set (j := 2) (.slice p8 N8 c8) (C46.out.m.b 1 rfl)))))
      go_simp
      refine hK.out _ _ trivial (fun _ => ?_)
      clear hK K
      try simp only [Act.put, q0, q1, q2]
      refine wpAnyH_done (by kernel_rfl) ?_ _
      rw [← HW.out]
      clear HW C46 l1 c10 f10 c11 f11 c12 f12 c13 f13 c14 f14
      have C48 := Lib.hid (C47.out.nrm (bs' := [_, (X, #[.int .i64 5, .string nm, .slice p8 N8 c8, .slice none 0 0, .slice none 0 0], 94), _]) rfl)
      clear C47
      obtain ⟨l1, c10, f10, c11, f11, c12, f12, c13, f13, c14, f14⟩ := cells5 (C48.out.m.b 1 rfl)
      obtain ⟨l2, c20, f20, c21, f21, c22, f22, c23, f23, c24, f24⟩ := cells5 (C48.out.m.b 2 rfl)
      go_wp2_with fail
      exact C48.out.retS (x := .mk 5 nm (x :: tr9.map Prod.fst) [] []) 2 rfl trivial Tryz.results156 rfl rfl (fun U b o => ⟨bd_stmt (k := 5) (by decide) hnm, o 0 rfl, .nil none 0, .nil none 0⟩)
  ·clear C3
   go_wp2_with fail
   refine (C13.out.take ⟨#[112, 114, 105, 110, 116]⟩ (by decide)).mono ?_
   rintro e w49 (⟨rfl, hlt50, -, C49⟩ | ⟨rfl, C49⟩)
   ·clear C13
    go_wp2_with fail
    refine (C49.out.callE (exprR_any C49.out.hL _ _ _ C49.out.ps)).mono ?_
    rintro e w51 ⟨x1, p1, N1, c1, k1, b1, rfl, hlt1, hn1, -, C51⟩
    clear C49
    obtain ⟨l1, c10, f10, c11, f11, c12, f12, c13, f13, c14, f14⟩ := cells5 (C51.out.m.b 1 rfl)
    go_wp2_with fail
    exact C51.out.retSb (x := .mk 6 ⟨#[]⟩ [x1] [] []) 1 rfl trivial Tryz.results156 rfl rfl (fun U g b o => ⟨bd_stmt (k := 6) (by decide) size_nil, slE_blk1 g (o 0 rfl).1 (o 0 rfl).2, .nil none 0, .nil none 0⟩)
   ·clear C13
    go_wp2_with fail
    refine (C49.out.take ⟨#[109, 111, 118, 101]⟩ (by decide)).mono ?_
    rintro e w52 (⟨rfl, hlt53, -, C52⟩ | ⟨rfl, C52⟩)
    ·clear C49
     go_wp2_with fail
     refine (C52.out.callE (exprR_any C52.out.hL _ _ _ C52.out.ps)).mono ?_
     rintro e w54 ⟨x1, p1, N1, c1, k1, b1, rfl, hlt1, hn1, -, C54⟩
     clear C52
     obtain ⟨A, w55, HX, HW, hx55, C55⟩ := C54.out.boxE #[.int .i64 x1.kind, .int .i64 x1.op, .int .i64 x1.int, .string x1.name, .bool x1.at_, .slice p1 N1 c1] 33
     go_upto_region 21 with fail
     rw [← HX.out, ← HW.out]
     clear HX HW C54
     go_wp2_with fail
     refine (C55.out.exp ⟨#[116, 111]⟩ (by decide)).mono ?_
     rintro e w57 ⟨k56, b56, rfl, hle56, hn56, -, C57⟩
     clear C55
     go_upto_region 22 with fail
     obtain ⟨w58, HW, C58⟩ := C57.out.drewE
     refine wp_region_held_drew (S := fun _ => True) (by kernel_rfl) trivial (fun _ => ?_)
     rw [← HW.out]
     clear HW C57
     refine rT 1 (some 69) ?_
     try simp only [Act.put, q0, q1, q2]
     refine rR2 0 (some 68) 2 (some 70) (fun K hK => ?_) (fun K hK => ?_)
     ·obtain ⟨l0, c00, f00, c01, f01, c02, f02, c03, f03, c04, f04, c05, f05⟩ := cells6 (C58.out.m.b 0 rfl)
      go_simp
      refine hK.out _ _ trivial (fun _ => ?_)
      clear hK K
      try simp only [Act.put, q0, q1, q2]
      clear l0 c00 f00 c01 f01 c02 f02 c03 f03 c04 f04 c05 f05
      refine rR1 2 (some 70) (fun K hK => ?_)
      go_simp
      refine (C58.out.callE (exprR_any C58.out.hL _ _ _ C58.out.ps)).mono ?_
      rintro e w59 ⟨x2, p2, N2, c2, k2, b2, rfl, hlt2, hn2, -, C59⟩
      clear C58
      go_wp2_with fail
      refine hK.out _ _ trivial (fun _ => ?_)
      clear hK K
      try simp only [Act.put, q0, q1, q2]
      refine rR1 3 (some 71) (fun K hK => ?_)
      obtain ⟨G, w60, HX, HW, hx60, C60⟩ := C59.out.boxE #[.int .i64 x1.kind, .int .i64 x1.op, .int .i64 x1.int, .string x1.name, .bool x1.at_, .slice p1 N1 c1, .int .i64 x2.kind, .int .i64 x2.op, .int .i64 x2.int, .string x2.name, .bool x2.at_, .slice p2 N2 c2] 33
      go_simp
      refine hK.out _ _ trivial (fun _ => ?_)
      clear hK K
      try simp only [Act.put, q0, q1, q2]
      rw [← HX.out, ← HW.out]
      clear HX HW C59
      refine rT 4 (some 72) ?_
      try simp only [Act.put, q0, q1, q2]
      refine rR1 5 none (fun K hK => ?_)
      obtain ⟨l3, c30, f30, c31, f31, c32, f32, c33, f33, c34, f34⟩ := cells5 (C60.out.m.b 3 rfl)
      go_simp
      refine hK.out _ _ trivial (fun _ => ?_)
      clear hK K
      try simp only [Act.put, q0, q1, q2]
      refine wpAnyH_done (by kernel_rfl) ?_ _
      clear l3 c30 f30 c31 f31 c32 f32 c33 f33 c34 f34
      go_wp2_with fail
      exact C60.out.retS (x := .mk 7 ⟨#[]⟩ [x1, x2] [] []) 3 rfl trivial Tryz.results156 rfl rfl (fun U b o => ⟨bd_stmt (k := 7) (by decide) size_nil, slE_two (b 0 (by decide) rfl) (o 1 rfl) (o 0 rfl), .nil none 0, .nil none 0⟩)
     ·go_simp
      refine (C58.out.callE (exprR_any C58.out.hL _ _ _ C58.out.ps)).mono ?_
      rintro e w61 ⟨x2, p2, N2, c2, k2, b2, rfl, hlt2, hn2, -, C61⟩
      clear C58
      go_wp2_with fail
      refine hK.out _ _ trivial (fun _ => ?_)
      clear hK K
      try simp only [Act.put, q0, q1, q2]
      refine rR1 0 (some 68) (fun K hK => ?_)
      obtain ⟨l0, c00, f00, c01, f01, c02, f02, c03, f03, c04, f04, c05, f05⟩ := cells6 (C61.out.m.b 0 rfl)
      go_simp
      refine hK.out _ _ trivial (fun _ => ?_)
      clear hK K
      try simp only [Act.put, q0, q1, q2]
      clear l0 c00 f00 c01 f01 c02 f02 c03 f03 c04 f04 c05 f05
      refine rR1 3 (some 71) (fun K hK => ?_)
      obtain ⟨G, w62, HX, HW, hx62, C62⟩ := C61.out.boxE #[.int .i64 x1.kind, .int .i64 x1.op, .int .i64 x1.int, .string x1.name, .bool x1.at_, .slice p1 N1 c1, .int .i64 x2.kind, .int .i64 x2.op, .int .i64 x2.int, .string x2.name, .bool x2.at_, .slice p2 N2 c2] 33
      go_simp
      refine hK.out _ _ trivial (fun _ => ?_)
      clear hK K
      try simp only [Act.put, q0, q1, q2]
      rw [← HX.out, ← HW.out]
      clear HX HW C61
      refine rT 4 (some 72) ?_
      try simp only [Act.put, q0, q1, q2]
      refine rR1 5 none (fun K hK => ?_)
      obtain ⟨l3, c30, f30, c31, f31, c32, f32, c33, f33, c34, f34⟩ := cells5 (C62.out.m.b 3 rfl)
      go_simp
      refine hK.out _ _ trivial (fun _ => ?_)
      clear hK K
      try simp only [Act.put, q0, q1, q2]
      refine wpAnyH_done (by kernel_rfl) ?_ _
      clear l3 c30 f30 c31 f31 c32 f32 c33 f33 c34 f34
      go_wp2_with fail
      exact C62.out.retS (x := .mk 7 ⟨#[]⟩ [x1, x2] [] []) 3 rfl trivial Tryz.results156 rfl rfl (fun U b o => ⟨bd_stmt (k := 7) (by decide) size_nil, slE_two (b 0 (by decide) rfl) (o 1 rfl) (o 0 rfl), .nil none 0, .nil none 0⟩)
    ·clear C49
     go_wp2_with fail
     refine (C52.out.take ⟨#[119, 97, 116, 99, 104]⟩ (by decide)).mono ?_
     rintro e w63 (⟨rfl, hlt64, -, C63⟩ | ⟨rfl, C63⟩)
     ·clear C52
      obtain ⟨l0, c00, f00, c01, f01, c02, f02, c03, f03, c04, f04⟩ := cells5 (C63.out.m.b 0 rfl)
      obtain ⟨w65, HW⟩ : ∃ q, Hid (q = (w63.setCell ⟨X, 0, none⟩ (.int .i64 8))) := ⟨_, Lib.hid rfl⟩
      have C65 := Lib.hid (C63.out.mm (W' := w65) (C63.out.m.set 0 rfl (by rw [HW.out]; exact gr_set w63 X 0 (.int .i64 8)) (by rw [HW.out]; exact (heap_set (j := 0) (.int .i64 8) (C63.out.m.b 0 rfl)))))
      go_upto_region 25 with fail
      rw [← HW.out]
      clear HW C63 l0 c00 f00 c01 f01 c02 f02 c03 f03 c04 f04
      have C66 := Lib.hid (C65.out.nrm (bs' := [(X, #[.int .i64 8, .string ⟨#[]⟩, .slice none 0 0, .slice none 0 0, .slice none 0 0], 94), _]) rfl)
      clear C65
      go_wp2_with fail
      refine (C66.out.callE (exprR_any C66.out.hL _ _ _ C66.out.ps)).mono ?_
      rintro e w67 ⟨x1, p1, N1, c1, k1, b1, rfl, hlt1, hn1, -, C67⟩
      clear C66
      obtain ⟨A, w68, HX, HW, hx68, C68⟩ := C67.out.boxE #[.int .i64 x1.kind, .int .i64 x1.op, .int .i64 x1.int, .string x1.name, .bool x1.at_, .slice p1 N1 c1] 33
      go_upto_region 26 with fail
      rw [← HX.out, ← HW.out]
      clear HX HW C67
      go_wp2_with fail
      refine (C68.out.exp ⟨#[98, 121]⟩ (by decide)).mono ?_
      rintro e w70 ⟨k69, b69, rfl, hle69, hn69, -, C70⟩
      clear C68
      go_wp2_with fail
      refine (C70.out.word 2 (by decide)).mono ?_
      rintro e w71 ⟨s2, z1, z2, z3, k2, b2, rfl, hsz2, hle2, hn2, C71⟩
      clear C70
      obtain ⟨l1, c10, f10, c11, f11, c12, f12, c13, f13, c14, f14⟩ := cells5 (C71.out.m.b 1 rfl)
      obtain ⟨w72, HW⟩ : ∃ q, Hid (q = (w71.setCell ⟨X, 1, none⟩ (.string s2))) := ⟨_, Lib.hid rfl⟩
      have C72 := Lib.hid (C71.out.mm (W' := w72) (C71.out.m.set 1 rfl (by rw [HW.out]; exact gr_set w71 X 1 (.string s2)) (by rw [HW.out]; exact (heap_set (j := 1) (.string s2) (C71.out.m.b 1 rfl)))))
      go_upto_region 28 with fail
      rw [← HW.out]
      clear HW C71 l1 c10 f10 c11 f11 c12 f12 c13 f13 c14 f14
      have C73 := Lib.hid (C72.out.nrm (bs' := [_, (X, #[.int .i64 8, .string s2, .slice none 0 0, .slice none 0 0, .slice none 0 0], 94), _]) rfl)
      clear C72
      go_wp2_with fail
      refine (C73.out.exp ⟨#[40]⟩ (by decide)).mono ?_
      rintro e w75 ⟨k74, b74, rfl, hle74, hn74, -, C75⟩
      clear C73
      go_upto_region 29 with fail
      obtain ⟨w76, HW, C76⟩ := C75.out.drewE
      refine wp_region_held_drew (S := fun _ => True) (by kernel_rfl) trivial (fun _ => ?_)
      rw [← HW.out]
      clear HW C75
      refine rT 1 (some 88) ?_
      try simp only [Act.put, q0, q1, q2]
      refine rR2 0 (some 87) 2 (some 89) (fun K hK => ?_) (fun K hK => ?_)
      ·obtain ⟨l0, c00, f00, c01, f01, c02, f02, c03, f03, c04, f04, c05, f05⟩ := cells6 (C76.out.m.b 0 rfl)
       go_simp
       refine hK.out _ _ trivial (fun _ => ?_)
       clear hK K
       try simp only [Act.put, q0, q1, q2]
       clear l0 c00 f00 c01 f01 c02 f02 c03 f03 c04 f04 c05 f05
       refine rR1 2 (some 89) (fun K hK => ?_)
       go_simp
       refine (C76.out.callE (exprR_any C76.out.hL _ _ _ C76.out.ps)).mono ?_
       rintro e w77 ⟨x3, p3, N3, c3, k3, b3, rfl, hlt3, hn3, -, C77⟩
       clear C76
       go_wp2_with fail
       refine hK.out _ _ trivial (fun _ => ?_)
       clear hK K
       try simp only [Act.put, q0, q1, q2]
       refine rR1 3 (some 90) (fun K hK => ?_)
       obtain ⟨G, w78, HX, HW, hx78, C78⟩ := C77.out.boxE #[.int .i64 x1.kind, .int .i64 x1.op, .int .i64 x1.int, .string x1.name, .bool x1.at_, .slice p1 N1 c1, .int .i64 x3.kind, .int .i64 x3.op, .int .i64 x3.int, .string x3.name, .bool x3.at_, .slice p3 N3 c3] 33
       go_simp
       refine hK.out _ _ trivial (fun _ => ?_)
       clear hK K
       try simp only [Act.put, q0, q1, q2]
       rw [← HX.out, ← HW.out]
       clear HX HW C77
       refine rT 4 (some 91) ?_
       try simp only [Act.put, q0, q1, q2]
       refine rR1 5 none (fun K hK => ?_)
       obtain ⟨l2, c20, f20, c21, f21, c22, f22, c23, f23, c24, f24⟩ := cells5 (C78.out.m.b 2 rfl)
       obtain ⟨w79, HW⟩ : ∃ q, Hid (q = (w78.setCell ⟨X, 2, none⟩ (.slice (some ⟨G, 0, none⟩) 2 2))) := ⟨_, Lib.hid rfl⟩
       have C79 := Lib.hid (C78.out.mm (W' := w79) (C78.out.m.set 2 rfl (by rw [HW.out]; exact gr_set w78 X 2 (.slice (some ⟨G, 0, none⟩) 2 2)) (by rw [HW.out]; exact (heap_set (j := 2) (.slice (some ⟨G, 0, none⟩) 2 2) (C78.out.m.b 2 rfl)))))
       go_simp
       refine hK.out _ _ trivial (fun _ => ?_)
       clear hK K
       try simp only [Act.put, q0, q1, q2]
       refine wpAnyH_done (by kernel_rfl) ?_ _
       rw [← HW.out]
       clear HW C78 l2 c20 f20 c21 f21 c22 f22 c23 f23 c24 f24
       have C80 := Lib.hid (C79.out.nrm (bs' := [_, _, (X, #[.int .i64 8, .string s2, .slice (some ⟨G, 0, none⟩) 2 2, .slice none 0 0, .slice none 0 0], 94), _]) rfl)
       clear C79
       go_wp2_with fail
       refine (C80.out.exp ⟨#[41]⟩ (by decide)).mono ?_
       rintro e w82 ⟨k81, b81, rfl, hle81, hn81, -, C82⟩
       clear C80
       obtain ⟨l2, c20, f20, c21, f21, c22, f22, c23, f23, c24, f24⟩ := cells5 (C82.out.m.b 2 rfl)
       obtain ⟨l3, c30, f30, c31, f31, c32, f32, c33, f33, c34, f34⟩ := cells5 (C82.out.m.b 3 rfl)
       go_wp2_with fail
       exact C82.out.retS (x := .mk 8 s2 [x1, x3] [] []) 3 rfl trivial Tryz.results156 rfl rfl (fun U b o => ⟨bd_stmt (k := 8) (by decide) hsz2, slE_two (b 0 (by decide) rfl) (o 1 rfl) (o 0 rfl), .nil none 0, .nil none 0⟩)
      ·go_simp
       refine (C76.out.callE (exprR_any C76.out.hL _ _ _ C76.out.ps)).mono ?_
       rintro e w83 ⟨x3, p3, N3, c3, k3, b3, rfl, hlt3, hn3, -, C83⟩
       clear C76
       go_wp2_with fail
       refine hK.out _ _ trivial (fun _ => ?_)
       clear hK K
       try simp only [Act.put, q0, q1, q2]
       refine rR1 0 (some 87) (fun K hK => ?_)
       obtain ⟨l0, c00, f00, c01, f01, c02, f02, c03, f03, c04, f04, c05, f05⟩ := cells6 (C83.out.m.b 0 rfl)
       go_simp
       refine hK.out _ _ trivial (fun _ => ?_)
       clear hK K
       try simp only [Act.put, q0, q1, q2]
       clear l0 c00 f00 c01 f01 c02 f02 c03 f03 c04 f04 c05 f05
       refine rR1 3 (some 90) (fun K hK => ?_)
       obtain ⟨G, w84, HX, HW, hx84, C84⟩ := C83.out.boxE #[.int .i64 x1.kind, .int .i64 x1.op, .int .i64 x1.int, .string x1.name, .bool x1.at_, .slice p1 N1 c1, .int .i64 x3.kind, .int .i64 x3.op, .int .i64 x3.int, .string x3.name, .bool x3.at_, .slice p3 N3 c3] 33
       go_simp
       refine hK.out _ _ trivial (fun _ => ?_)
       clear hK K
       try simp only [Act.put, q0, q1, q2]
       rw [← HX.out, ← HW.out]
       clear HX HW C83
       refine rT 4 (some 91) ?_
       try simp only [Act.put, q0, q1, q2]
       refine rR1 5 none (fun K hK => ?_)
       obtain ⟨l2, c20, f20, c21, f21, c22, f22, c23, f23, c24, f24⟩ := cells5 (C84.out.m.b 2 rfl)
       obtain ⟨w85, HW⟩ : ∃ q, Hid (q = (w84.setCell ⟨X, 2, none⟩ (.slice (some ⟨G, 0, none⟩) 2 2))) := ⟨_, Lib.hid rfl⟩
       have C85 := Lib.hid (C84.out.mm (W' := w85) (C84.out.m.set 2 rfl (by rw [HW.out]; exact gr_set w84 X 2 (.slice (some ⟨G, 0, none⟩) 2 2)) (by rw [HW.out]; exact (heap_set (j := 2) (.slice (some ⟨G, 0, none⟩) 2 2) (C84.out.m.b 2 rfl)))))
       go_simp
       refine hK.out _ _ trivial (fun _ => ?_)
       clear hK K
       try simp only [Act.put, q0, q1, q2]
       refine wpAnyH_done (by kernel_rfl) ?_ _
       rw [← HW.out]
       clear HW C84 l2 c20 f20 c21 f21 c22 f22 c23 f23 c24 f24
       have C86 := Lib.hid (C85.out.nrm (bs' := [_, _, (X, #[.int .i64 8, .string s2, .slice (some ⟨G, 0, none⟩) 2 2, .slice none 0 0, .slice none 0 0], 94), _]) rfl)
       clear C85
       go_wp2_with fail
       refine (C86.out.exp ⟨#[41]⟩ (by decide)).mono ?_
       rintro e w88 ⟨k87, b87, rfl, hle87, hn87, -, C88⟩
       clear C86
       obtain ⟨l2, c20, f20, c21, f21, c22, f22, c23, f23, c24, f24⟩ := cells5 (C88.out.m.b 2 rfl)
       obtain ⟨l3, c30, f30, c31, f31, c32, f32, c33, f33, c34, f34⟩ := cells5 (C88.out.m.b 3 rfl)
       go_wp2_with fail
       exact C88.out.retS (x := .mk 8 s2 [x1, x3] [] []) 3 rfl trivial Tryz.results156 rfl rfl (fun U b o => ⟨bd_stmt (k := 8) (by decide) hsz2, slE_two (b 0 (by decide) rfl) (o 1 rfl) (o 0 rfl), .nil none 0, .nil none 0⟩)
     ·clear C52
      go_wp2_with fail
      refine (C63.out.take ⟨#[114, 101, 116, 117, 114, 110]⟩ (by decide)).mono ?_
      rintro e w89 (⟨rfl, hlt90, -, C89⟩ | ⟨rfl, C89⟩)
      ·clear C63
       obtain ⟨l1, c10, f10, c11, f11, c12, f12, c13, f13, c14, f14⟩ := cells5 (C89.out.m.b 1 rfl)
       go_wp2_with fail
       exact C89.out.retS (x := .mk 9 ⟨#[]⟩ [] [] []) 1 rfl trivial Tryz.results156 rfl rfl (fun U b o => ⟨bd_stmt (k := 9) (by decide) size_nil, .nil none 0, .nil none 0, .nil none 0⟩)
      ·clear C63
       by_cases hc : b = false ∧ (((Pa.rest L n k).headD default).kind = 2 ∧ Pa.is [61] (Pa.rest L n k).tail = true)
       ·obtain ⟨rfl, hc⟩ := hc
        have h2 : t.kind = 2 := (head_kind C89.out.hL C89.out.le HT.out).symm.trans hc.1
        have H2 := Lib.hid h2
        have hlt := kind_lt C89.out.hL C89.out.le HT.out (by omega)
        have his := Lib.hid ((congrArg (Pa.is [61]) (Pa.rest_tail C89.out.hL hlt)).symm.trans hc.2)
        have HC := Lib.hid hc
        clear h2 hc
        have C91 := Lib.hid (C89.out.at0 (G' := fun f ts => (Pa.pO (f + 1) ts).bind fun a r => Pa.opt [61] (fun r => (Pa.pE f 0 r).bind fun e r => .ok (.mk 1 a.name [e] [] []) r) (fun r => .bad r) r) (fun f => (if_pos HC.out).trans (asg_eq hlt HT.out H2.out f)))
        clear C89
        go_wp2_with fail
        refine (C91.out.callE ((operandR_any C91.out.hL _ _ _ C91.out.ps).mono fun _ _ h => h.succ)).mono ?_
        rintro e w92 ⟨x1, p1, N1, c1, k1, b1, rfl, hlt1, hn1, HXO, C92⟩
        clear C91
        have hx0 := HXO.out.1 rfl t HT.out H2.out
        obtain ⟨hxv, rfl, rfl⟩ := hx0
        have hx3 : (x1.kind == 3) = true := by rw [hxv]; rfl
        have k2 : ((t.kind : Int) == 2) = true := (kind_beq t.kind 2).trans (beq_iff_eq.2 H2.out)
        clear hxv HXO
        obtain ⟨A, w93, HX, HW, hx93, C93⟩ := C92.out.boxE #[.int .i64 x1.kind, .int .i64 x1.op, .int .i64 x1.int, .string x1.name, .bool x1.at_, .slice p1 N1 c1] 33
        go_upto_region 35 with fail
        rw [← HX.out, ← HW.out]
        clear HX HW C92
        obtain ⟨t1, ht1⟩ : ∃ t1, t = t1 := ⟨_, rfl⟩
        have HT1 := Lib.hid (ht1 ▸ HT.out)
        rw [ht1] at k2
        clear ht1
        obtain ⟨w94, HW, C94⟩ := C93.out.drewE
        have HBD : Hid (Below w93.heap.size w93 w94) := Lib.hid (by rw [HW.out]; exact (Below.refl _ _).drew)
        have ya := Lib.hid (cell_of_blkP (C94.out.m.b 0 rfl) (j := 0) (u := .int .i64 x1.kind) rfl)
        have y0 := Lib.hid (cell_of_blkP C94.out.ps.blk (j := 0) (u := .slice (some ⟨tbk, 0, none⟩) (n + 1) tc) rfl)
        obtain ⟨x2, x3, x4, x5⟩ := C94.out.ps.toks k t1 HT1.out
        have y2 := Lib.hid x2
        clear x2 x3 x4 x5
        have hfew := C94.out.hL.few
        have hcap := C94.out.ps.cap
        have hle := C94.out.le
        have a1 : (0 : Int) ≤ (k : Int) := by omega
        have a2 : (k : Int) < (n : Int) + 1 := by omega
        have hw1 : IntKind.i64.wrap (((k + 1 : Nat) : Int) - 1) = (k : Int) := (IntWalk.i64_in _ ⟨by omega, by omega⟩).trans (by omega)
        have hw2 : (((k + 1 : Nat) : Int) - 1) = (k : Int) := by omega
        have hw3 : IntKind.i64.wrap (k : Int) = (k : Int) := IntWalk.i64_in _ ⟨by omega, by omega⟩
        refine wp_region_held_drew (S := fun W => W.cell? ⟨A, 0, none⟩ = some (.int .i64 x1.kind) ∧ W.cell? ⟨P, 0, none⟩ = some (.slice (some ⟨tbk, 0, none⟩) (n + 1) tc) ∧ W.cell? ⟨tbk, k * 4, none⟩ = some (.int .i64 t1.kind)) (by kernel_rfl) (by rw [← HW.out]; exact ⟨ya.out, y0.out, y2.out⟩) (fun hHeld => ?_)
        rw [← HW.out] at hHeld ⊢
        clear HW C93
        refine rT 0 (some 101) ?_
        try simp only [Act.put, q0, q1, q2]
        refine rT 1 (some 102) ?_
        try simp only [Act.put, q0, q1, q2]
        refine rT 2 (some 103) ?_
        try simp only [Act.put, q0, q1, q2]
        refine rT 3 (some 104) ?_
        try simp only [Act.put, q0, q1, q2]
        refine rT 4 (some 105) ?_
        try simp only [Act.put, q0, q1, q2]
        refine rT 5 (some 106) ?_
        try simp only [Act.put, q0, q1, q2]
        refine rT 6 (some 107) ?_
        try simp only [Act.put, q0, q1, q2]
        refine rT 7 (some 108) ?_
        try simp only [Act.put, q0, q1, q2]
        refine rT 8 (some 109) ?_
        try simp only [Act.put, q0, q1, q2]
        refine rT 9 (some 110) ?_
        try simp only [Act.put, q0, q1, q2]
        refine rT 10 (some 111) ?_
        try simp only [Act.put, q0, q1, q2]
        refine rR1 11 (some 112) (fun K hK => ?_)
        have p1 := cell_of_blkP C94.out.ps.blk (j := 1) (u := .int .i64 ((k + 1 : Nat))) rfl
        go_simp
        refine hK.out _ _ hHeld (fun hHeld => ?_)
        clear hK K p1
        try simp only [Act.put, q0, q1, q2]
        refine rT 12 (some 113) ?_
        try simp only [Act.put, q0, q1, q2]
        refine rT 13 (some 114) ?_
        try simp only [Act.put, q0, q1, q2]
        refine rT 14 (some 115) ?_
        try simp only [Act.put, q0, q1, q2]
        refine rT 15 (some 116) ?_
        try simp only [Act.put, q0, q1, q2]
        refine rT 16 (some 117) ?_
        try simp only [Act.put, q0, q1, q2]
        refine rT 17 (some 118) ?_
        try simp only [Act.put, q0, q1, q2]
        refine rT 18 (some 119) ?_
        try simp only [Act.put, q0, q1, q2]
        refine rT 19 (some 120) ?_
        try simp only [Act.put, q0, q1, q2]
        refine rR1 20 (some 121) (fun K hK => ?_)
        clear hHeld
        go_simp
        refine (C94.out.takeY ⟨#[61]⟩ (by decide) his.out).mono ?_
        rintro e w95 ⟨rfl, C95⟩
        have ra := cell_of_blkP (C95.out.m.b 0 rfl) (j := 0) (u := .int .i64 x1.kind) rfl
        have r0 := cell_of_blkP C95.out.ps.blk (j := 0) (u := .slice (some ⟨tbk, 0, none⟩) (n + 1) tc) rfl
        obtain ⟨r2, _, _, _⟩ := C95.out.ps.toks k t1 HT1.out
        clear C94
        go_wp2_with fail
        refine hK.out _ _ ⟨ra, r0, r2⟩ (fun hHeld => ?_)
        clear hK K
        try simp only [Act.put, q0, q1, q2]
        refine rT 21 (some 122) ?_
        try simp only [Act.put, q0, q1, q2]
        refine wpAnyH_done (by kernel_rfl) ?_ _
        clear hHeld hfew hcap hle a1 a2 hw1 hw2 hw3 ya y0 y2
        go_upto_region 36 with fail
        obtain ⟨w96, HW, C96⟩ := C95.out.drewE
        refine wp_region_held_drew (S := fun _ => True) (by kernel_rfl) trivial (fun _ => ?_)
        rw [← HW.out]
        clear HW C95
        refine rT 0 (some 123) ?_
        try simp only [Act.put, q0, q1, q2]
        refine rT 2 (some 125) ?_
        try simp only [Act.put, q0, q1, q2]
        refine rR2 1 (some 124) 3 (some 126) (fun K hK => ?_) (fun K hK => ?_)
        ·obtain ⟨l0, c00, f00, c01, f01, c02, f02, c03, f03, c04, f04, c05, f05⟩ := cells6 (C96.out.m.b 0 rfl)
         go_simp
         refine hK.out _ _ trivial (fun _ => ?_)
         clear hK K
         try simp only [Act.put, q0, q1, q2]
         clear l0 c00 f00 c01 f01 c02 f02 c03 f03 c04 f04 c05 f05
         refine rR1 3 (some 126) (fun K hK => ?_)
         go_simp
         refine (C96.out.callE (exprR_any C96.out.hL _ _ _ C96.out.ps)).mono ?_
         rintro e w97 ⟨x2, p2, N2, c2, k2, b2, rfl, hlt2, hn2, -, C97⟩
         clear C96
         go_wp2_with fail
         refine hK.out _ _ trivial (fun _ => ?_)
         clear hK K
         try simp only [Act.put, q0, q1, q2]
         refine rR1 4 (some 127) (fun K hK => ?_)
         obtain ⟨G, w98, HX, HW, hx98, C98⟩ := C97.out.boxE #[.int .i64 x2.kind, .int .i64 x2.op, .int .i64 x2.int, .string x2.name, .bool x2.at_, .slice p2 N2 c2] 33
         go_simp
         refine hK.out _ _ trivial (fun _ => ?_)
         clear hK K
         try simp only [Act.put, q0, q1, q2]
         rw [← HX.out, ← HW.out]
         clear HX HW C97
         refine rT 5 (some 128) ?_
         try simp only [Act.put, q0, q1, q2]
         refine rR1 6 none (fun K hK => ?_)
         obtain ⟨l3, c30, f30, c31, f31, c32, f32, c33, f33, c34, f34⟩ := cells5 (C98.out.m.b 3 rfl)
         go_simp
         refine hK.out _ _ trivial (fun _ => ?_)
         clear hK K
         try simp only [Act.put, q0, q1, q2]
         refine wpAnyH_done (by kernel_rfl) ?_ _
         clear l3 c30 f30 c31 f31 c32 f32 c33 f33 c34 f34
         go_wp2_with fail
         exact C98.out.retS (x := .mk 1 x1.name [x2] [] []) 3 rfl trivial Tryz.results156 rfl rfl (fun U b o => ⟨bd_stmt (k := 1) (by decide) (o 1 rfl).1.name, slE_blk1 (b 0 (by decide) rfl) (o 0 rfl).1 (o 0 rfl).2, .nil none 0, .nil none 0⟩)
        ·go_simp
         refine (C96.out.callE (exprR_any C96.out.hL _ _ _ C96.out.ps)).mono ?_
         rintro e w99 ⟨x2, p2, N2, c2, k2, b2, rfl, hlt2, hn2, -, C99⟩
         clear C96
         go_wp2_with fail
         refine hK.out _ _ trivial (fun _ => ?_)
         clear hK K
         try simp only [Act.put, q0, q1, q2]
         refine rR2 1 (some 124) 4 (some 127) (fun K hK => ?_) (fun K hK => ?_)
         ·obtain ⟨l0, c00, f00, c01, f01, c02, f02, c03, f03, c04, f04, c05, f05⟩ := cells6 (C99.out.m.b 0 rfl)
          go_simp
          refine hK.out _ _ trivial (fun _ => ?_)
          clear hK K
          try simp only [Act.put, q0, q1, q2]
          clear l0 c00 f00 c01 f01 c02 f02 c03 f03 c04 f04 c05 f05
          refine rR1 4 (some 127) (fun K hK => ?_)
          obtain ⟨G, w100, HX, HW, hx100, C100⟩ := C99.out.boxE #[.int .i64 x2.kind, .int .i64 x2.op, .int .i64 x2.int, .string x2.name, .bool x2.at_, .slice p2 N2 c2] 33
          go_simp
          refine hK.out _ _ trivial (fun _ => ?_)
          clear hK K
          try simp only [Act.put, q0, q1, q2]
          rw [← HX.out, ← HW.out]
          clear HX HW C99
          refine rT 5 (some 128) ?_
          try simp only [Act.put, q0, q1, q2]
          refine rR1 6 none (fun K hK => ?_)
          obtain ⟨l3, c30, f30, c31, f31, c32, f32, c33, f33, c34, f34⟩ := cells5 (C100.out.m.b 3 rfl)
          go_simp
          refine hK.out _ _ trivial (fun _ => ?_)
          clear hK K
          try simp only [Act.put, q0, q1, q2]
          refine wpAnyH_done (by kernel_rfl) ?_ _
          clear l3 c30 f30 c31 f31 c32 f32 c33 f33 c34 f34
          go_wp2_with fail
          exact C100.out.retS (x := .mk 1 x1.name [x2] [] []) 3 rfl trivial Tryz.results156 rfl rfl (fun U b o => ⟨bd_stmt (k := 1) (by decide) (o 1 rfl).1.name, slE_blk1 (b 0 (by decide) rfl) (o 0 rfl).1 (o 0 rfl).2, .nil none 0, .nil none 0⟩)
         ·obtain ⟨G, w101, HX, HW, hx101, C101⟩ := C99.out.boxE #[.int .i64 x2.kind, .int .i64 x2.op, .int .i64 x2.int, .string x2.name, .bool x2.at_, .slice p2 N2 c2] 33
          go_simp
          refine hK.out _ _ trivial (fun _ => ?_)
          clear hK K
          try simp only [Act.put, q0, q1, q2]
          rw [← HX.out, ← HW.out]
          clear HX HW C99
          refine rR1 1 (some 124) (fun K hK => ?_)
          obtain ⟨l1, c10, f10, c11, f11, c12, f12, c13, f13, c14, f14, c15, f15⟩ := cells6 (C101.out.m.b 1 rfl)
          go_simp
          refine hK.out _ _ trivial (fun _ => ?_)
          clear hK K
          try simp only [Act.put, q0, q1, q2]
          clear l1 c10 f10 c11 f11 c12 f12 c13 f13 c14 f14 c15 f15
          refine rT 5 (some 128) ?_
          try simp only [Act.put, q0, q1, q2]
          refine rR1 6 none (fun K hK => ?_)
          obtain ⟨l3, c30, f30, c31, f31, c32, f32, c33, f33, c34, f34⟩ := cells5 (C101.out.m.b 3 rfl)
          go_simp
          refine hK.out _ _ trivial (fun _ => ?_)
          clear hK K
          try simp only [Act.put, q0, q1, q2]
          refine wpAnyH_done (by kernel_rfl) ?_ _
          clear l3 c30 f30 c31 f31 c32 f32 c33 f33 c34 f34
          go_wp2_with fail
          exact C101.out.retS (x := .mk 1 x1.name [x2] [] []) 3 rfl trivial Tryz.results156 rfl rfl (fun U b o => ⟨bd_stmt (k := 1) (by decide) (o 1 rfl).1.name, slE_blk1 (b 0 (by decide) rfl) (o 0 rfl).1 (o 0 rfl).2, .nil none 0, .nil none 0⟩)
       ·have HC := Lib.hid hc
        clear hc
        have C102 := Lib.hid (C89.out.evb (G' := fun f ts => (Pa.pO (f + 1) ts).bind fun a r => Pa.stoQ f a r) (fun hb f => if_neg (fun h => HC.out ⟨hb, h⟩)))
        clear C89
        go_wp2_with fail
        refine (C102.out.callE ((operandR_any C102.out.hL _ _ _ C102.out.ps).mono fun _ _ h => h.succ)).mono ?_
        rintro e w103 ⟨x1, p1, N1, c1, k1, b1, rfl, hlt1, hn1, HXO, C103⟩
        clear C102
        obtain ⟨A, w104, HX, HW, hx104, C104⟩ := C103.out.boxE #[.int .i64 x1.kind, .int .i64 x1.op, .int .i64 x1.int, .string x1.name, .bool x1.at_, .slice p1 N1 c1] 33
        go_upto_region 35 with fail
        rw [← HX.out, ← HW.out]
        clear HX HW C103
        go_cut [122] (fun s122 wx => s122 = .bool false ∧ Hid (Below w104.heap.size w104 wx))
        case first =>
         by_cases h3 : x1.kind = 3
         ·have hx3 : (x1.kind == 3) = true := beq_iff_eq.2 h3
          obtain ⟨hk1, hx2⟩ := HXO.out.2 h3
          obtain ⟨j, rfl⟩ : ∃ j, k1 = j + 1 := ⟨k1 - 1, by omega⟩
          obtain ⟨t1, ht1⟩ := C104.out.hL.get (k := j) (by have := C104.out.le; omega)
          have HT1 := Lib.hid ht1
          by_cases h2 : t1.kind = 2
          ·have HIS : Hid ((!b1 && Pa.is [61] (Pa.rest L n (j + 1))) = false) := Lib.hid (by
            cases b1 with
            | true => rfl
            | false =>
              obtain ⟨hb, hk⟩ := hx2 rfl t1 ht1 h2
              obtain rfl : j = k := by omega
              cases hi : Pa.is [61] (Pa.rest L n (j + 1)) with
              | false => rfl
              | true =>
                refine absurd ⟨hb, ?_, ?_⟩ HC.out
                ·exact (head_kind C104.out.hL (by have := C104.out.le; omega) ht1).trans h2
                ·rw [Pa.rest_tail C104.out.hL (by have := C104.out.le; omega)]; exact hi)
           have k2 : ((t1.kind : Int) == 2) = true := (kind_beq t1.kind 2).trans (beq_iff_eq.2 h2)
           clear h2 h3 hx2 ht1 hk1
           obtain ⟨w108, HW, C108⟩ := C104.out.drewE
           have HBD : Hid (Below w104.heap.size w104 w108) := Lib.hid (by rw [HW.out]; exact (Below.refl _ _).drew)
           have ya := Lib.hid (cell_of_blkP (C108.out.m.b 0 rfl) (j := 0) (u := .int .i64 x1.kind) rfl)
           have y0 := Lib.hid (cell_of_blkP C108.out.ps.blk (j := 0) (u := .slice (some ⟨tbk, 0, none⟩) (n + 1) tc) rfl)
           obtain ⟨x2, x3, x4, x5⟩ := C108.out.ps.toks j t1 HT1.out
           have y2 := Lib.hid x2
           clear x2 x3 x4 x5
           have hfew := C108.out.hL.few
           have hcap := C108.out.ps.cap
           have hle := C108.out.le
           have a1 : (0 : Int) ≤ (j : Int) := by omega
           have a2 : (j : Int) < (n : Int) + 1 := by omega
           have hw1 : IntKind.i64.wrap (((j + 1 : Nat) : Int) - 1) = (j : Int) := (IntWalk.i64_in _ ⟨by omega, by omega⟩).trans (by omega)
           have hw2 : (((j + 1 : Nat) : Int) - 1) = (j : Int) := by omega
           have hw3 : IntKind.i64.wrap (j : Int) = (j : Int) := IntWalk.i64_in _ ⟨by omega, by omega⟩
           refine wp_region_held_drew (S := fun W => W.cell? ⟨A, 0, none⟩ = some (.int .i64 x1.kind) ∧ W.cell? ⟨P, 0, none⟩ = some (.slice (some ⟨tbk, 0, none⟩) (n + 1) tc) ∧ W.cell? ⟨tbk, j * 4, none⟩ = some (.int .i64 t1.kind)) (by kernel_rfl) (by rw [← HW.out]; exact ⟨ya.out, y0.out, y2.out⟩) (fun hHeld => ?_)
           rw [← HW.out] at hHeld ⊢
           clear HW C104
           refine rT 0 (some 101) ?_
           try simp only [Act.put, q0, q1, q2]
           refine rT 1 (some 102) ?_
           try simp only [Act.put, q0, q1, q2]
           refine rT 2 (some 103) ?_
           try simp only [Act.put, q0, q1, q2]
           refine rT 3 (some 104) ?_
           try simp only [Act.put, q0, q1, q2]
           refine rT 4 (some 105) ?_
           try simp only [Act.put, q0, q1, q2]
           refine rT 5 (some 106) ?_
           try simp only [Act.put, q0, q1, q2]
           refine rT 6 (some 107) ?_
           try simp only [Act.put, q0, q1, q2]
           refine rT 7 (some 108) ?_
           try simp only [Act.put, q0, q1, q2]
           refine rT 8 (some 109) ?_
           try simp only [Act.put, q0, q1, q2]
           refine rT 9 (some 110) ?_
           try simp only [Act.put, q0, q1, q2]
           refine rT 10 (some 111) ?_
           try simp only [Act.put, q0, q1, q2]
           refine rR1 11 (some 112) (fun K hK => ?_)
           have p1 := cell_of_blkP C108.out.ps.blk (j := 1) (u := .int .i64 ((j + 1 : Nat))) rfl
           go_simp
           refine hK.out _ _ hHeld (fun hHeld => ?_)
           clear hK K p1
           try simp only [Act.put, q0, q1, q2]
           refine rT 12 (some 113) ?_
           try simp only [Act.put, q0, q1, q2]
           refine rT 13 (some 114) ?_
           try simp only [Act.put, q0, q1, q2]
           refine rT 14 (some 115) ?_
           try simp only [Act.put, q0, q1, q2]
           refine rT 15 (some 116) ?_
           try simp only [Act.put, q0, q1, q2]
           refine rT 16 (some 117) ?_
           try simp only [Act.put, q0, q1, q2]
           refine rT 17 (some 118) ?_
           try simp only [Act.put, q0, q1, q2]
           refine rT 18 (some 119) ?_
           try simp only [Act.put, q0, q1, q2]
           refine rT 19 (some 120) ?_
           try simp only [Act.put, q0, q1, q2]
           refine rR1 20 (some 121) (fun K hK => ?_)
           clear hHeld
           go_simp
           refine (accept_no C108.out.ps C108.out.hL ⟨#[61]⟩ (by decide) HIS.out).mono ?_
           rintro e w' ⟨rfl, hb⟩
           have HB := Lib.hid hb
           clear hb
           go_wp2_with fail
           refine hK.out _ _ ⟨cell_keep' HB.out ya.out, cell_keep' HB.out y0.out, cell_keep' HB.out y2.out⟩ (fun hHeld => ?_)
           clear hK K
           try simp only [Act.put, q0, q1, q2]
           refine rT 21 (some 122) ?_
           try simp only [Act.put, q0, q1, q2]
           refine wpAnyH_done (by kernel_rfl) ?_ _
           clear hHeld
           go_wp2_with fail
           go_meet
           exact ⟨rfl, Lib.hid (below_next HBD.out HB.out)⟩
          ·have k2 : ((t1.kind : Int) == 2) = false := (kind_beq t1.kind 2).trans (beq_eq_false_iff_ne.2 h2)
           clear h2 h3 hx2 ht1 hk1
           obtain ⟨w107, HW, C107⟩ := C104.out.drewE
           have HBD : Hid (Below w104.heap.size w104 w107) := Lib.hid (by rw [HW.out]; exact (Below.refl _ _).drew)
           have ya := Lib.hid (cell_of_blkP (C107.out.m.b 0 rfl) (j := 0) (u := .int .i64 x1.kind) rfl)
           have y0 := Lib.hid (cell_of_blkP C107.out.ps.blk (j := 0) (u := .slice (some ⟨tbk, 0, none⟩) (n + 1) tc) rfl)
           obtain ⟨x2, x3, x4, x5⟩ := C107.out.ps.toks j t1 HT1.out
           have y2 := Lib.hid x2
           clear x2 x3 x4 x5
           have hfew := C107.out.hL.few
           have hcap := C107.out.ps.cap
           have hle := C107.out.le
           have a1 : (0 : Int) ≤ (j : Int) := by omega
           have a2 : (j : Int) < (n : Int) + 1 := by omega
           have hw1 : IntKind.i64.wrap (((j + 1 : Nat) : Int) - 1) = (j : Int) := (IntWalk.i64_in _ ⟨by omega, by omega⟩).trans (by omega)
           have hw2 : (((j + 1 : Nat) : Int) - 1) = (j : Int) := by omega
           have hw3 : IntKind.i64.wrap (j : Int) = (j : Int) := IntWalk.i64_in _ ⟨by omega, by omega⟩
           refine wp_region_held_drew (S := fun W => W.cell? ⟨A, 0, none⟩ = some (.int .i64 x1.kind) ∧ W.cell? ⟨P, 0, none⟩ = some (.slice (some ⟨tbk, 0, none⟩) (n + 1) tc) ∧ W.cell? ⟨tbk, j * 4, none⟩ = some (.int .i64 t1.kind)) (by kernel_rfl) (by rw [← HW.out]; exact ⟨ya.out, y0.out, y2.out⟩) (fun hHeld => ?_)
           rw [← HW.out] at hHeld ⊢
           clear HW C104
           refine rT 0 (some 101) ?_
           try simp only [Act.put, q0, q1, q2]
           refine rT 1 (some 102) ?_
           try simp only [Act.put, q0, q1, q2]
           refine rT 2 (some 103) ?_
           try simp only [Act.put, q0, q1, q2]
           refine rT 3 (some 104) ?_
           try simp only [Act.put, q0, q1, q2]
           refine rT 4 (some 105) ?_
           try simp only [Act.put, q0, q1, q2]
           refine rT 5 (some 106) ?_
           try simp only [Act.put, q0, q1, q2]
           refine rT 6 (some 107) ?_
           try simp only [Act.put, q0, q1, q2]
           refine rT 7 (some 108) ?_
           try simp only [Act.put, q0, q1, q2]
           refine rT 8 (some 109) ?_
           try simp only [Act.put, q0, q1, q2]
           refine rT 9 (some 110) ?_
           try simp only [Act.put, q0, q1, q2]
           refine rT 10 (some 111) ?_
           try simp only [Act.put, q0, q1, q2]
           refine rR1 11 (some 112) (fun K hK => ?_)
           have p1 := cell_of_blkP C107.out.ps.blk (j := 1) (u := .int .i64 ((j + 1 : Nat))) rfl
           go_simp
           refine hK.out _ _ hHeld (fun hHeld => ?_)
           clear hK K p1
           try simp only [Act.put, q0, q1, q2]
           refine rT 12 (some 113) ?_
           try simp only [Act.put, q0, q1, q2]
           refine rT 13 (some 114) ?_
           try simp only [Act.put, q0, q1, q2]
           refine rT 14 (some 115) ?_
           try simp only [Act.put, q0, q1, q2]
           refine rT 15 (some 116) ?_
           try simp only [Act.put, q0, q1, q2]
           refine rT 16 (some 117) ?_
           try simp only [Act.put, q0, q1, q2]
           refine rT 17 (some 118) ?_
           try simp only [Act.put, q0, q1, q2]
           refine rT 18 (some 119) ?_
           try simp only [Act.put, q0, q1, q2]
           refine rK 19 (some 120) ?_
           try simp only [Act.put, q0, q1, q2]
           refine rK 20 (some 121) ?_
           try simp only [Act.put, q0, q1, q2]
           refine rT 21 (some 122) ?_
           try simp only [Act.put, q0, q1, q2]
           refine wpAnyH_done (by kernel_rfl) ?_ _
           clear hHeld
           go_wp2_with fail
           go_meet
           exact ⟨rfl, Lib.hid (HBD.out)⟩
         ·have hx3 : (x1.kind == 3) = false := beq_eq_false_iff_ne.2 h3
          clear h3
          obtain ⟨w106, HW, C106⟩ := C104.out.drewE
          have HBD : Hid (Below w104.heap.size w104 w106) := Lib.hid (by rw [HW.out]; exact (Below.refl _ _).drew)
          have ya := Lib.hid (cell_of_blkP (C106.out.m.b 0 rfl) (j := 0) (u := .int .i64 x1.kind) rfl)
          refine wp_region_held_drew (S := fun W => W.cell? ⟨A, 0, none⟩ = some (.int .i64 x1.kind)) (by kernel_rfl) (by rw [← HW.out]; exact ya.out) (fun hHeld => ?_)
          rw [← HW.out] at hHeld ⊢
          clear HW C104
          refine rT 0 (some 101) ?_
          try simp only [Act.put, q0, q1, q2]
          refine rT 1 (some 102) ?_
          try simp only [Act.put, q0, q1, q2]
          refine rT 2 (some 103) ?_
          try simp only [Act.put, q0, q1, q2]
          refine rT 3 (some 104) ?_
          try simp only [Act.put, q0, q1, q2]
          refine rK 4 (some 105) ?_
          try simp only [Act.put, q0, q1, q2]
          refine rK 5 (some 106) ?_
          try simp only [Act.put, q0, q1, q2]
          refine rK 6 (some 107) ?_
          try simp only [Act.put, q0, q1, q2]
          refine rK 7 (some 108) ?_
          try simp only [Act.put, q0, q1, q2]
          refine rK 8 (some 109) ?_
          try simp only [Act.put, q0, q1, q2]
          refine rK 9 (some 110) ?_
          try simp only [Act.put, q0, q1, q2]
          refine rK 10 (some 111) ?_
          try simp only [Act.put, q0, q1, q2]
          refine rK 11 (some 112) ?_
          try simp only [Act.put, q0, q1, q2]
          refine rK 12 (some 113) ?_
          try simp only [Act.put, q0, q1, q2]
          refine rK 13 (some 114) ?_
          try simp only [Act.put, q0, q1, q2]
          refine rK 14 (some 115) ?_
          try simp only [Act.put, q0, q1, q2]
          refine rK 15 (some 116) ?_
          try simp only [Act.put, q0, q1, q2]
          refine rK 16 (some 117) ?_
          try simp only [Act.put, q0, q1, q2]
          refine rT 17 (some 118) ?_
          try simp only [Act.put, q0, q1, q2]
          refine rT 18 (some 119) ?_
          try simp only [Act.put, q0, q1, q2]
          refine rK 19 (some 120) ?_
          try simp only [Act.put, q0, q1, q2]
          refine rK 20 (some 121) ?_
          try simp only [Act.put, q0, q1, q2]
          refine rT 21 (some 122) ?_
          try simp only [Act.put, q0, q1, q2]
          refine wpAnyH_done (by kernel_rfl) ?_ _
          clear hHeld
          go_wp2_with fail
          go_meet
          exact ⟨rfl, Lib.hid (HBD.out)⟩
        case rest =>
         obtain ⟨rfl, HZ⟩ := hcut
         have C105 := Lib.hid (C104.out.keep HZ.out)
         clear HZ C104 HXO
         have C109 := Lib.hid (C105.out.spc (G' := fun f ts => (Pa.expect [46] ts).bind fun _ r => (Pa.word 2 r).bind fun n r => (Pa.expect [61] r).bind fun _ r => (Pa.pE f 0 r).bind fun b r => .ok (.mk 2 n [x1, b] [] []) r) (fun f ts => rfl))
         clear C105
         go_wp2_with fail
         refine (C109.out.exp ⟨#[46]⟩ (by decide)).mono ?_
         rintro e w111 ⟨k110, b110, rfl, hle110, hn110, -, C111⟩
         clear C109
         go_wp2_with fail
         refine (C111.out.word 2 (by decide)).mono ?_
         rintro e w112 ⟨s2, z1, z2, z3, k2, b2, rfl, hsz2, hle2, hn2, C112⟩
         clear C111
         go_wp2_with fail
         refine (C112.out.exp ⟨#[61]⟩ (by decide)).mono ?_
         rintro e w114 ⟨k113, b113, rfl, hle113, hn113, -, C114⟩
         clear C112
         go_upto_region 40 with fail
         obtain ⟨w115, HW, C115⟩ := C114.out.drewE
         refine wp_region_held_drew (S := fun _ => True) (by kernel_rfl) trivial (fun _ => ?_)
         rw [← HW.out]
         clear HW C114
         refine rT 0 (some 136) ?_
         try simp only [Act.put, q0, q1, q2]
         refine rT 2 (some 138) ?_
         try simp only [Act.put, q0, q1, q2]
         refine rR2 1 (some 137) 3 (some 139) (fun K hK => ?_) (fun K hK => ?_)
         ·obtain ⟨l0, c00, f00, c01, f01, c02, f02, c03, f03, c04, f04, c05, f05⟩ := cells6 (C115.out.m.b 0 rfl)
          go_simp
          refine hK.out _ _ trivial (fun _ => ?_)
          clear hK K
          try simp only [Act.put, q0, q1, q2]
          clear l0 c00 f00 c01 f01 c02 f02 c03 f03 c04 f04 c05 f05
          refine rR1 3 (some 139) (fun K hK => ?_)
          go_simp
          refine (C115.out.callE (exprR_any C115.out.hL _ _ _ C115.out.ps)).mono ?_
          rintro e w116 ⟨x3, p3, N3, c3, k3, b3, rfl, hlt3, hn3, -, C116⟩
          clear C115
          go_wp2_with fail
          refine hK.out _ _ trivial (fun _ => ?_)
          clear hK K
          try simp only [Act.put, q0, q1, q2]
          refine rR1 4 (some 140) (fun K hK => ?_)
          obtain ⟨G, w117, HX, HW, hx117, C117⟩ := C116.out.boxE #[.int .i64 x1.kind, .int .i64 x1.op, .int .i64 x1.int, .string x1.name, .bool x1.at_, .slice p1 N1 c1, .int .i64 x3.kind, .int .i64 x3.op, .int .i64 x3.int, .string x3.name, .bool x3.at_, .slice p3 N3 c3] 33
          go_simp
          refine hK.out _ _ trivial (fun _ => ?_)
          clear hK K
          try simp only [Act.put, q0, q1, q2]
          rw [← HX.out, ← HW.out]
          clear HX HW C116
          refine rT 5 (some 141) ?_
          try simp only [Act.put, q0, q1, q2]
          refine rR1 6 none (fun K hK => ?_)
          obtain ⟨l3, c30, f30, c31, f31, c32, f32, c33, f33, c34, f34⟩ := cells5 (C117.out.m.b 3 rfl)
          go_simp
          refine hK.out _ _ trivial (fun _ => ?_)
          clear hK K
          try simp only [Act.put, q0, q1, q2]
          refine wpAnyH_done (by kernel_rfl) ?_ _
          clear l3 c30 f30 c31 f31 c32 f32 c33 f33 c34 f34
          go_wp2_with fail
          exact C117.out.retS (x := .mk 2 s2 [x1, x3] [] []) 3 rfl trivial Tryz.results156 rfl rfl (fun U b o => ⟨bd_stmt (k := 2) (by decide) hsz2, slE_two (b 0 (by decide) rfl) (o 1 rfl) (o 0 rfl), .nil none 0, .nil none 0⟩)
         ·go_simp
          refine (C115.out.callE (exprR_any C115.out.hL _ _ _ C115.out.ps)).mono ?_
          rintro e w118 ⟨x3, p3, N3, c3, k3, b3, rfl, hlt3, hn3, -, C118⟩
          clear C115
          go_wp2_with fail
          refine hK.out _ _ trivial (fun _ => ?_)
          clear hK K
          try simp only [Act.put, q0, q1, q2]
          refine rR1 1 (some 137) (fun K hK => ?_)
          obtain ⟨l0, c00, f00, c01, f01, c02, f02, c03, f03, c04, f04, c05, f05⟩ := cells6 (C118.out.m.b 0 rfl)
          go_simp
          refine hK.out _ _ trivial (fun _ => ?_)
          clear hK K
          try simp only [Act.put, q0, q1, q2]
          clear l0 c00 f00 c01 f01 c02 f02 c03 f03 c04 f04 c05 f05
          refine rR1 4 (some 140) (fun K hK => ?_)
          obtain ⟨G, w119, HX, HW, hx119, C119⟩ := C118.out.boxE #[.int .i64 x1.kind, .int .i64 x1.op, .int .i64 x1.int, .string x1.name, .bool x1.at_, .slice p1 N1 c1, .int .i64 x3.kind, .int .i64 x3.op, .int .i64 x3.int, .string x3.name, .bool x3.at_, .slice p3 N3 c3] 33
          go_simp
          refine hK.out _ _ trivial (fun _ => ?_)
          clear hK K
          try simp only [Act.put, q0, q1, q2]
          rw [← HX.out, ← HW.out]
          clear HX HW C118
          refine rT 5 (some 141) ?_
          try simp only [Act.put, q0, q1, q2]
          refine rR1 6 none (fun K hK => ?_)
          obtain ⟨l3, c30, f30, c31, f31, c32, f32, c33, f33, c34, f34⟩ := cells5 (C119.out.m.b 3 rfl)
          go_simp
          refine hK.out _ _ trivial (fun _ => ?_)
          clear hK K
          try simp only [Act.put, q0, q1, q2]
          refine wpAnyH_done (by kernel_rfl) ?_ _
          clear l3 c30 f30 c31 f31 c32 f32 c33 f33 c34 f34
          go_wp2_with fail
          exact C119.out.retS (x := .mk 2 s2 [x1, x3] [] []) 3 rfl trivial Tryz.results156 rfl rfl (fun U b o => ⟨bd_stmt (k := 2) (by decide) hsz2, slE_two (b 0 (by decide) rfl) (o 1 rfl) (o 0 rfl), .nil none 0, .nil none 0⟩)
end Go.Proofs.YtdckddkalgnlpaaGreatDoor
