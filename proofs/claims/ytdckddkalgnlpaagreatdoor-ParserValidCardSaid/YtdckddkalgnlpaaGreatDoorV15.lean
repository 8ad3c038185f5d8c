/-
  The parser's assign and send, walked.
-/
import Derived.Test.YtdckddkalgnlpaaGreatDoorV14
namespace Go.Proofs.YtdckddkalgnlpaaGreatDoor
open Go.RowKit Go.Maps Pw
theorem slE_blk2 {w : World} {g : Nat} {x y : Tr.E} {a b : Value} {t : TypeId} (h : w.heap[g]? = some (.cells #[.int .i64 x.kind, .int .i64 x.op, .int .i64 x.int, .string x.name, .bool x.at_, a, .int .i64 y.kind, .int .i64 y.op, .int .i64 y.int, .string y.name, .bool y.at_, b] t (0, 0))) (hx : ReadET w (x, a)) (hy : ReadET w (y, b)) : SlE w (.slice (some ⟨g, 0, none⟩) 2 2) [x, y] :=
 slE_blk h [(x, a), (y, b)] (by simp) rfl (fun z hz => by
  simp only [List.mem_cons, List.not_mem_nil, or_false] at hz
  rcases hz with rfl | rfl
  ·exact hx
  ·exact hy)
set_option maxRecDepth 100000 in
set_option maxHeartbeats 8000000 in
theorem assign_any {L : List Lex.Tok} {n tbk tc P : Nat} (hL : Pa.TkL L n) (kd : Nat) (hkd : kd ≤ 9) (k : Nat) (w : World) (hp : PS L n tbk tc P k w) : Calls Tryz.prog 196 #[.pointer (some ⟨P, 0, none⟩), .int .i64 kd] w (PQ L n tbk tc P k (fun f ts => Pa.pSet f kd ts) rdS w) := by
 have HKD := Lib.hid hkd
 obtain ⟨w1, HW, C1⟩ := (Cx.start hL hp (fun f ts => Pa.pSet f kd ts)).boxR #[.int .i64 0, .string ⟨#[]⟩, .slice none 0 0, .slice none 0 0, .slice none 0 0] 94
 clear hL hp
 go_enter Tryz.func196, Tryz.ntmps196
 go_upto_region 1 with fail
 rw [← HW.out]
 clear HW
 clear hkd
 go_wp2_with fail
 refine (C1.out.name).mono ?_
 rintro e w2 (⟨s1, rfl, hlt1, hsz1, C2⟩ | ⟨t, rfl, HB⟩)
 ·clear C1
  go_wp2_with fail
  refine (C2.out.exp ⟨#[61]⟩ (by decide)).mono ?_
  rintro e w4 (⟨rfl, hlt3, C4⟩ | ⟨t, rfl, HB⟩)
  ·clear C2
   go_wp2_with fail
   refine (C4.out.callE (pexpr_any C4.out.hL _ _ C4.out.ps)).mono ?_
   rintro e w5 (⟨x2, p2, N2, c2, k2, rfl, hlt2, hn2, C5⟩ | ⟨t, rfl, HB⟩)
   ·clear C4
    obtain ⟨l0, c00, f00, c01, f01, c02, f02, c03, f03, c04, f04⟩ := cells5 (C5.out.m.b 0 rfl)
    go_wp2_with fail
    exact C5.out.retSb (x := .mk kd s1 [x2] [] []) 0 rfl (by omega) Tryz.results196 rfl rfl (fun U g b o => ⟨bd_stmt HKD.out hsz1, slE_blk1 g (o 0 rfl).1 (o 0 rfl).2, .nil none 0, .nil none 0⟩)
   ·go_wp2_with fail
    exact ⟨rfl, HB.out.pq⟩
  ·go_wp2_with fail
   exact ⟨rfl, HB.out.pq⟩
 ·go_wp2_with fail
  exact ⟨rfl, HB.out.pq⟩
def Pa.sendQ (f : Nat) (a : Tr.E) (ts : Pa.Toks) : Pa.R Tr.S := (Pa.expect [46] ts).bind fun _ r => (Pa.word 2 r).bind fun n r => Pa.pSend f a n r
def Pa.sendF (f : Nat) (ts : Pa.Toks) : Pa.R Tr.S := (Pa.pO f ts).bind fun a r => Pa.sendQ f a r
theorem is_excl {s t : Pa.Bytes} {ts : Pa.Toks} (h : Pa.is s ts = true) (hn : s ≠ t) : Pa.is t ts = false := by
 cases ts with
 | nil => rfl
 | cons x r =>
   have h1 : (x.text == s && (x.kind == 4 || x.kind == 5)) = true := h
   rw [Bool.and_eq_true] at h1
   show (x.text == t && (x.kind == 4 || x.kind == 5)) = false
   rw [beq_iff_eq.1 h1.1, beq_eq_false_iff_ne.2 hn]
   rfl
theorem pSend_s (f : Nat) (a : Tr.E) (n : ByteArray) (ts : Pa.Toks) : Pa.pSend (f + 1) a n ts = if Pa.is [46] ts then (Pa.word 2 ts.tail).bind fun m r => Pa.pSend f (Pa.fld n a) m r else (Pa.pA f ts).bind fun l r => .ok (.mk 5 n (a :: l) [] []) r := by rw [Pa.pSend]
theorem send_args {f : Nat} {a : Tr.E} {n : ByteArray} {ts : Pa.Toks} (h : Pa.is [40] ts = true) : Pa.pSend (f + 1) a n ts = (Pa.pA f ts).bind fun l r => .ok (.mk 5 n (a :: l) [] []) r := by
 rw [pSend_s, is_excl (t := [46]) h (by decide)]
 rfl
theorem send_more {e : Tr.E} {n : ByteArray} {ts : Pa.Toks} {x : Pa.R Tr.S} (h : Pa.is [40] ts = false) (hb : Pa.Ev (fun f => Pa.sendQ f (Pa.fld n e) ts) x) : Pa.Ev (fun f => Pa.pSend f e n ts) x := by
 cases hd : Pa.is [46] ts with
 | true =>
   refine .step (q := fun f => Pa.sendQ f (Pa.fld n e) ts) (fun f => ?_) hb
   rw [pSend_s, hd, if_pos rfl]
   unfold Pa.sendQ Pa.expect
   rw [hd, if_pos rfl]
   rfl
 | false =>
   refine .step (q := fun f => (Pa.pA f ts).bind fun l r => .ok (.mk 5 n (e :: l) [] []) r) (fun f => ?_) (.step (q := fun f => Pa.sendQ f (Pa.fld n e) ts) (fun f => ?_) hb)
   ·rw [pSend_s, hd, if_neg (by decide)]
   ·unfold Pa.sendQ Pa.expect
    rw [hd, if_neg (by decide)]
    show (Pa.pA (f + 1) ts).bind _ = _
    rw [Pa.pA_s]
    unfold Pa.expect
    rw [h, if_neg (by decide)]
    rfl
set_option maxRecDepth 100000 in
set_option maxHeartbeats 8000000 in
theorem send_any {L : List Lex.Tok} {n tbk tc P : Nat} (hL : Pa.TkL L n) (k : Nat) (w : World) (hp : PS L n tbk tc P k w) : Calls Tryz.prog 197 #[.pointer (some ⟨P, 0, none⟩)] w (PQ L n tbk tc P k (fun f ts => Pa.sendF f ts) rdS w) := by
 obtain ⟨w6, HW, C6⟩ := (Cx.start hL hp (fun f ts => Pa.sendF f ts)).boxR #[.int .i64 0, .string ⟨#[]⟩, .slice none 0 0, .slice none 0 0, .slice none 0 0] 94
 clear hL hp
 go_enter Tryz.func197, Tryz.ntmps197
 go_upto_region 1 with fail
 rw [← HW.out]
 clear HW
 have C7 := Lib.hid (C6.out.spc (G' := fun f ts => (Pa.pO f ts).bind fun a r => Pa.sendQ f a r) (fun f ts => rfl))
 clear C6
 go_wp2_with fail
 refine (C7.out.callE (poperand_any C7.out.hL _ _ C7.out.ps)).mono ?_
 rintro e w8 (⟨x1, p1, N1, c1, k1, rfl, hlt1, hn1, C8⟩ | ⟨t, rfl, HB⟩)
 ·clear C7
  obtain ⟨X, w9, HX, HW, hx9, C9⟩ := C8.out.boxE #[.int .i64 x1.kind, .int .i64 x1.op, .int .i64 x1.int, .string x1.name, .bool x1.at_, .slice p1 N1 c1] 33
  go_wp2_with fail
  rw [← HX.out, ← HW.out]
  clear HX HW C8
  go_loopg [4] (n - k1) (fun gg s4 wr => ∃ k', gg = n - k' ∧ k < k' ∧ k' ≤ n ∧ ∃ (x : Tr.E) (p : Option Addr) (N c B : Nat), Hid (Cx L n tbk tc P k w (fun f => Pa.sendF f (Pa.rest L n k)) k' [(X, #[.int .i64 x.kind, .int .i64 x.op, .int .i64 x.int, .string x.name, .bool x.at_, .slice p N c], 33), (w.heap.size, #[.int .i64 0, .string ⟨#[]⟩, .slice none 0 0, .slice none 0 0, .slice none 0 0], 94)] [im B (fun U => ReadET U (x, .slice p N c))] (fun f ts => Pa.sendQ f x ts) wr))
  case atStart => exact ⟨k1, rfl, hlt1, hn1, x1, p1, N1, c1, _, C9⟩
  case round =>
   clear C9 hlt1 hn1 hx9
   obtain ⟨k', rfl, hltk, hnk, x, p, N, c, B, CR⟩ := hrel
   have C10 := Lib.hid (CR.out.spc (G' := fun f ts => (Pa.expect [46] ts).bind fun _ r => (Pa.word 2 r).bind fun n r => Pa.pSend f x n r) (fun f ts => rfl))
   clear CR
   go_wp2_with fail
   refine (C10.out.exp ⟨#[46]⟩ (by decide)).mono ?_
   rintro e w12 (⟨rfl, hlt11, C12⟩ | ⟨t, rfl, HB⟩)
   ·clear C10
    go_wp2_with fail
    refine (C12.out.name).mono ?_
    rintro e w13 (⟨s1, rfl, hlt1, hsz1, C13⟩ | ⟨t, rfl, HB⟩)
    ·clear C12
     go_wp2_with fail
     refine (C13.out.is ⟨#[40]⟩ (by decide)).mono ?_
     rintro e w15 (⟨rfl, HI14, C15⟩ | ⟨rfl, HI14, C15⟩)
     ·clear C13
      have C16 := Lib.hid (C15.out.at_ (G' := fun f ts => (Pa.pA f ts).bind fun l r => .ok (.mk 5 s1 (x :: l) [] []) r) (fun f => send_args HI14.out))
      clear C15
      go_upto_region 5 with fail
      obtain ⟨w17, HW, C17⟩ := C16.out.drewE
      refine wp_region_held_drew (S := fun _ => True) (by kernel_rfl) trivial (fun _ => ?_)
      rw [← HW.out]
      clear HW C16
      refine rT 0 (some 14) ?_
      try simp only [Act.put, q0, q1, q2]
      refine rT 3 (some 17) ?_
      try simp only [Act.put, q0, q1, q2]
      refine rT 4 (some 18) ?_
      try simp only [Act.put, q0, q1, q2]
      refine rT 5 (some 19) ?_
      try simp only [Act.put, q0, q1, q2]
      refine rR2 1 (some 15) 6 (some 20) (fun K hK => ?_) (fun K hK => ?_)
      ·obtain ⟨l0, c00, f00, c01, f01, c02, f02, c03, f03, c04, f04, c05, f05⟩ := cells6 (C17.out.m.b 0 rfl)
       go_simp
       refine hK.out _ _ trivial (fun _ => ?_)
       clear hK K
       try simp only [Act.put, q0, q1, q2]
       clear l0 c00 f00 c01 f01 c02 f02 c03 f03 c04 f04 c05 f05
       refine rR2 2 (some 16) 6 (some 20) (fun K hK => ?_) (fun K hK => ?_)
       ·obtain ⟨G, w18, HX, HW, hx18, C18⟩ := C17.out.boxE #[.int .i64 x.kind, .int .i64 x.op, .int .i64 x.int, .string x.name, .bool x.at_, .slice p N c] 33
        go_simp
        refine hK.out _ _ trivial (fun _ => ?_)
        clear hK K
        try simp only [Act.put, q0, q1, q2]
        rw [← HX.out, ← HW.out]
        clear HX HW C17
        refine rR1 6 (some 20) (fun K hK => ?_)
        go_simp
        refine (C18.out.callL (plist_any C18.out.hL _ _ _ C18.out.ps (Nat.le_refl _))).mono ?_
        rintro e w19 (⟨tr9, p9, N9, c9, k9, rfl, HTL9, hlt9, hn9, C19⟩ | ⟨t, rfl, HB⟩)
        ·clear C18
         go_wp2_with fail
         refine hK.out _ _ trivial (fun _ => ?_)
         clear hK K
         try simp only [Act.put, q0, q1, q2]
         refine rR1 7 (some 21) (fun K hK => ?_)
         refine C19.out.appS tkE 1 rfl 0 rfl rfl HTL9.out (by rfl) _ _ (by rfl) (by rfl) (by rfl) ?_
         intro p8 N8 c8 w20 C20
         clear C19
         refine hK.out _ _ trivial (fun _ => ?_)
         clear hK K
         try simp only [Act.put, q0, q1, q2]
         refine rT 8 (some 22) ?_
         try simp only [Act.put, q0, q1, q2]
         refine rR1 9 none (fun K hK => ?_)
         obtain ⟨l1, c10, f10, c11, f11, c12, f12, c13, f13, c14, f14⟩ := cells5 (C20.out.m.b 1 rfl)
         go_simp
         refine hK.out _ _ trivial (fun _ => ?_)
         clear hK K
         try simp only [Act.put, q0, q1, q2]
         refine wpAnyH_done (by kernel_rfl) ?_ _
         clear l1 c10 f10 c11 f11 c12 f12 c13 f13 c14 f14
         go_wp2_with fail
         exact C20.out.retS (x := .mk 5 s1 (x :: tr9.map Prod.fst) [] []) 1 rfl (by omega) Tryz.results197 rfl rfl (fun U b o => ⟨bd_stmt (k := 5) (by decide) hsz1, o 0 rfl, .nil none 0, .nil none 0⟩)
        ·go_wp2_with fail
         exact ⟨rfl, HB.out.pq⟩
       ·go_simp
        refine (C17.out.callL (plist_any C17.out.hL _ _ _ C17.out.ps (Nat.le_refl _))).mono ?_
        rintro e w21 (⟨tr9, p9, N9, c9, k9, rfl, HTL9, hlt9, hn9, C21⟩ | ⟨t, rfl, HB⟩)
        ·clear C17
         go_wp2_with fail
         refine hK.out _ _ trivial (fun _ => ?_)
         clear hK K
         try simp only [Act.put, q0, q1, q2]
         refine rR1 2 (some 16) (fun K hK => ?_)
         obtain ⟨G, w22, HX, HW, hx22, C22⟩ := C21.out.boxE #[.int .i64 x.kind, .int .i64 x.op, .int .i64 x.int, .string x.name, .bool x.at_, .slice p N c] 33
         go_simp
         refine hK.out _ _ trivial (fun _ => ?_)
         clear hK K
         try simp only [Act.put, q0, q1, q2]
         rw [← HX.out, ← HW.out]
         clear HX HW C21
         refine rR1 7 (some 21) (fun K hK => ?_)
         refine C22.out.appS tkE 1 rfl 0 rfl rfl HTL9.out (by rfl) _ _ (by rfl) (by rfl) (by rfl) ?_
         intro p8 N8 c8 w23 C23
         clear C22
         refine hK.out _ _ trivial (fun _ => ?_)
         clear hK K
         try simp only [Act.put, q0, q1, q2]
         refine rT 8 (some 22) ?_
         try simp only [Act.put, q0, q1, q2]
         refine rR1 9 none (fun K hK => ?_)
         obtain ⟨l1, c10, f10, c11, f11, c12, f12, c13, f13, c14, f14⟩ := cells5 (C23.out.m.b 1 rfl)
         go_simp
         refine hK.out _ _ trivial (fun _ => ?_)
         clear hK K
         try simp only [Act.put, q0, q1, q2]
         refine wpAnyH_done (by kernel_rfl) ?_ _
         clear l1 c10 f10 c11 f11 c12 f12 c13 f13 c14 f14
         go_wp2_with fail
         exact C23.out.retS (x := .mk 5 s1 (x :: tr9.map Prod.fst) [] []) 1 rfl (by omega) Tryz.results197 rfl rfl (fun U b o => ⟨bd_stmt (k := 5) (by decide) hsz1, o 0 rfl, .nil none 0, .nil none 0⟩)
        ·go_wp2_with fail
         exact ⟨rfl, HB.out.pq⟩
      ·go_simp
       refine (C17.out.callL (plist_any C17.out.hL _ _ _ C17.out.ps (Nat.le_refl _))).mono ?_
       rintro e w24 (⟨tr9, p9, N9, c9, k9, rfl, HTL9, hlt9, hn9, C24⟩ | ⟨t, rfl, HB⟩)
       ·clear C17
        go_wp2_with fail
        refine hK.out _ _ trivial (fun _ => ?_)
        clear hK K
        try simp only [Act.put, q0, q1, q2]
        refine rR1 1 (some 15) (fun K hK => ?_)
        obtain ⟨l0, c00, f00, c01, f01, c02, f02, c03, f03, c04, f04, c05, f05⟩ := cells6 (C24.out.m.b 0 rfl)
        go_simp
        refine hK.out _ _ trivial (fun _ => ?_)
        clear hK K
        try simp only [Act.put, q0, q1, q2]
        clear l0 c00 f00 c01 f01 c02 f02 c03 f03 c04 f04 c05 f05
        refine rR1 2 (some 16) (fun K hK => ?_)
        obtain ⟨G, w25, HX, HW, hx25, C25⟩ := C24.out.boxE #[.int .i64 x.kind, .int .i64 x.op, .int .i64 x.int, .string x.name, .bool x.at_, .slice p N c] 33
        go_simp
        refine hK.out _ _ trivial (fun _ => ?_)
        clear hK K
        try simp only [Act.put, q0, q1, q2]
        rw [← HX.out, ← HW.out]
        clear HX HW C24
        refine rR1 7 (some 21) (fun K hK => ?_)
        refine C25.out.appS tkE 1 rfl 0 rfl rfl HTL9.out (by rfl) _ _ (by rfl) (by rfl) (by rfl) ?_
        intro p8 N8 c8 w26 C26
        clear C25
        refine hK.out _ _ trivial (fun _ => ?_)
        clear hK K
        try simp only [Act.put, q0, q1, q2]
        refine rT 8 (some 22) ?_
        try simp only [Act.put, q0, q1, q2]
        refine rR1 9 none (fun K hK => ?_)
        obtain ⟨l1, c10, f10, c11, f11, c12, f12, c13, f13, c14, f14⟩ := cells5 (C26.out.m.b 1 rfl)
        go_simp
        refine hK.out _ _ trivial (fun _ => ?_)
        clear hK K
        try simp only [Act.put, q0, q1, q2]
        refine wpAnyH_done (by kernel_rfl) ?_ _
        clear l1 c10 f10 c11 f11 c12 f12 c13 f13 c14 f14
        go_wp2_with fail
        exact C26.out.retS (x := .mk 5 s1 (x :: tr9.map Prod.fst) [] []) 1 rfl (by omega) Tryz.results197 rfl rfl (fun U b o => ⟨bd_stmt (k := 5) (by decide) hsz1, o 0 rfl, .nil none 0, .nil none 0⟩)
       ·go_wp2_with fail
        exact ⟨rfl, HB.out.pq⟩
     ·clear C13
      obtain ⟨l0, c00, f00, c01, f01, c02, f02, c03, f03, c04, f04, c05, f05⟩ := cells6 (C15.out.m.b 0 rfl)
      go_wp2_with fail
      clear l0 c00 f00 c01 f01 c02 f02 c03 f03 c04 f04 c05 f05
      have C27 := Lib.hid (C15.out.mm (C15.out.m.set 0 rfl (set6_gr _ _ _ _ _ _ _ _ ) (set6_blk (.int .i64 4) (.int .i64 0) (.int .i64 0) (.string s1) (.bool false) (.slice (some ⟨w15.heap.size, 0, none⟩) 1 1) (C15.out.m.b 0 rfl))))
      have D27 := Lib.hid ((C27.out.mm (C27.out.m.box (X := w15.heap.size) (by simp [set6]) #[.int .i64 x.kind, .int .i64 x.op, .int .i64 x.int, .string x.name, .bool x.at_, .slice p N c] 33)))
      have E27 := Lib.hid (D27.out.mm (D27.out.m.fold (rd := fun U => ReadET U (Pa.fld s1 x, .slice (some ⟨w15.heap.size, 0, none⟩) 1 1)) (mn_E _) (fun U b o => ⟨bd_fld hsz1 x, slE_blk1 b (o 0 rfl).1 (o 0 rfl).2⟩)))
      have G27 := Lib.hid (E27.out.evs (G' := fun f ts => Pa.sendQ f (Pa.fld s1 x) ts) (fun x hx => send_more HI14.out hx))
      clear C15 C27 D27 E27
      go_roundg (n - (k' + 1 + 1))
      case measure => omega
      case rel => exact ⟨k' + 1 + 1, rfl, by omega, by omega, Pa.fld s1 x, _, _, _, _, G27⟩
    ·go_wp2_with fail
     exact ⟨rfl, HB.out.pq⟩
   ·go_wp2_with fail
    exact ⟨rfl, HB.out.pq⟩
 ·go_wp2_with fail
  exact ⟨rfl, HB.out.pq⟩
end Go.Proofs.YtdckddkalgnlpaaGreatDoor
