/-
  The parser's simple, walked.
-/
import Derived.Test.YtdckddkalgnlpaaGreatDoorA21
import Derived.IntWalk
import Derived.Deep.DeepCutAuto
namespace Go.Proofs.YtdckddkalgnlpaaGreatDoor
open Go.RowKit Go.Maps Pw
theorem PQ.succ {α : Type} {L : List Lex.Tok} {n tbk tc P k : Nat} {p : Nat → Pa.Toks → Pa.R α} {rd : World → Value → α → Prop} {w w' : World} {e : Ending} (h : PQ L n tbk tc P k p rd w e w') : PQ L n tbk tc P k (fun f ts => p (f + 1) ts) rd w e w' := by
 obtain ⟨hg, ⟨a, v, k', hev, h⟩ | ⟨k', t, hev, h⟩⟩ := h
 ·exact ⟨hg, .inl ⟨a, v, k', hev.succ, h⟩⟩
 ·exact ⟨hg, .inr ⟨k', t, hev.succ, h⟩⟩
theorem pSimple_o (f : Nat) (ts : Pa.Toks) : Pa.pSimple f ts = Pa.opt [108, 101, 116] (fun r => (Pa.pSet f 0 r).bind fun s r => .ok s r) (Pa.opt [115, 101, 110, 100] (fun r => (Pa.sendF f r).bind fun s r => .ok s r) (Pa.opt [112, 114, 105, 110, 116] (fun r => (Pa.pE f 0 r).bind fun e r => .ok (.mk 6 ⟨#[]⟩ [e] [] []) r)
 (Pa.opt [109, 111, 118, 101] (fun r => (Pa.pE f 0 r).bind fun a r => (Pa.expect [116, 111] r).bind fun _ r => (Pa.pE f 0 r).bind fun b r => .ok (.mk 7 ⟨#[]⟩ [a, b] [] []) r)
 (Pa.opt [119, 97, 116, 99, 104] (fun r => (Pa.pE f 0 r).bind fun a r => (Pa.expect [98, 121] r).bind fun _ r => (Pa.word 2 r).bind fun n r => (Pa.expect [40] r).bind fun _ r => (Pa.pE f 0 r).bind fun b r => (Pa.expect [41] r).bind fun _ r => .ok (.mk 8 n [a, b] [] []) r)
 (Pa.opt [114, 101, 116, 117, 114, 110] (fun r => .ok (.mk 9 ⟨#[]⟩ [] [] []) r) fun r => if (r.headD default).kind = 2 ∧ Pa.is [61] r.tail = true then Pa.pSet f 1 r else (Pa.pO (f + 1) r).bind fun a r => (Pa.expect [46] r).bind fun _ r => (Pa.word 2 r).bind fun n r => (Pa.expect [61] r).bind fun _ r => (Pa.pE f 0 r).bind fun b r => .ok (.mk 2 n [a, b] [] []) r))))) ts := by
 simp only [← Pa.R.eta]
 rfl
theorem head_kind {L : List Lex.Tok} {n k : Nat} {t : Lex.Tok} (hL : Pa.TkL L n) (hk : k ≤ n) (ht : L[k]? = some t) : ((Pa.rest L n k).headD default).kind = t.kind := by
 rcases Nat.lt_or_ge k n with hlt | hge
 ·rw [Pa.rest_cons hlt ht]
  rfl
 ·obtain rfl : k = n := by omega
  obtain ⟨p, hp⟩ := hL.last
  rw [hp] at ht
  cases ht
  rw [Pa.rest_end]
  rfl
def NoEq (L : List Lex.Tok) : Prop := ∀ t ∈ L, t.kind = 4 → t.text ≠ [61]
theorem eq_at {L : List Lex.Tok} {n k : Nat} {t : Lex.Tok} (hL : Pa.TkL L n) (hq : NoEq L) (hk : k < n) (ht : L[k + 1]? = some t) : Pa.is [61] (Pa.rest L n k).tail = (t.kind == 5 && t.text == [61]) := by
 rw [Pa.rest_tail hL hk, Pa.is_at hL hk ht _ (by decide)]
 by_cases h : t.text = [61]
 ·have h4 : (t.kind == 4) = false := beq_eq_false_iff_ne.2 (fun e => hq t (List.mem_of_getElem? ht) e h)
  rw [h, h4, Bool.false_or, beq_self_eq_true, Bool.true_and, Bool.and_true]
 ·rw [beq_eq_false_iff_ne.2 h, Bool.false_and, Bool.and_false]
set_option maxRecDepth 100000 in
set_option maxHeartbeats 8000000 in
theorem psimple_any {L : List Lex.Tok} {n tbk tc P : Nat} (hL : Pa.TkL L n) (hq : NoEq L) (k : Nat) (w : World) (hp : PS L n tbk tc P k w) : Calls Tryz.prog 177 #[.pointer (some ⟨P, 0, none⟩)] w (PQ L n tbk tc P k (fun f ts => Pa.pSimple f ts) rdS w) := by
 obtain ⟨t, ht⟩ := hL.get hp.le
 have HT := Lib.hid ht
 have HQ := Lib.hid hq
 have hf0 := field0
 clear ht hq
 obtain ⟨w28, HW, C28⟩ := ((Cx.start hL hp (fun f ts => Pa.pSimple f ts)).spc pSimple_o).boxR #[.int .i64 0, .string ⟨#[]⟩, .slice none 0 0, .slice none 0 0, .slice none 0 0] 94
 clear hL hp
 go_enter Tryz.func177, Tryz.ntmps177
 go_upto_region 1 with fail
 rw [← HW.out]
 clear HW
 go_wp2_with fail
 refine (C28.out.take ⟨#[108, 101, 116]⟩ (by decide)).mono ?_
 rintro e w29 (⟨rfl, hlt30, C29⟩ | ⟨rfl, C29⟩)
 ·clear C28
  go_wp2_with fail
  refine (C29.out.callS (assign_any C29.out.hL 0 (by decide) _ _ C29.out.ps)).mono ?_
  rintro e w31 (⟨s1, px1, Nx1, cx1, py1, Ny1, cy1, pz1, Nz1, cz1, k1, rfl, hlt1, hn1, C31⟩ | ⟨t, rfl, HB⟩)
  ·clear C29
   obtain ⟨l0, c00, f00, c01, f01, c02, f02, c03, f03, c04, f04⟩ := cells5 (C31.out.m.b 0 rfl)
   go_wp2_with fail
   exact C31.out.retS (x := s1) 0 rfl (by omega) Tryz.results177 rfl rfl (fun U b o => o 0 rfl)
  ·go_wp2_with fail
   exact ⟨rfl, HB.out.pq⟩
 ·clear C28
  go_wp2_with fail
  refine (C29.out.take ⟨#[115, 101, 110, 100]⟩ (by decide)).mono ?_
  rintro e w32 (⟨rfl, hlt33, C32⟩ | ⟨rfl, C32⟩)
  ·clear C29
   go_wp2_with fail
   refine (C32.out.callS (send_any C32.out.hL _ _ C32.out.ps)).mono ?_
   rintro e w34 (⟨s1, px1, Nx1, cx1, py1, Ny1, cy1, pz1, Nz1, cz1, k1, rfl, hlt1, hn1, C34⟩ | ⟨t, rfl, HB⟩)
   ·clear C32
    obtain ⟨l0, c00, f00, c01, f01, c02, f02, c03, f03, c04, f04⟩ := cells5 (C34.out.m.b 0 rfl)
    go_wp2_with fail
    exact C34.out.retS (x := s1) 0 rfl (by omega) Tryz.results177 rfl rfl (fun U b o => o 0 rfl)
   ·go_wp2_with fail
    exact ⟨rfl, HB.out.pq⟩
  ·clear C29
   go_wp2_with fail
   refine (C32.out.take ⟨#[112, 114, 105, 110, 116]⟩ (by decide)).mono ?_
   rintro e w35 (⟨rfl, hlt36, C35⟩ | ⟨rfl, C35⟩)
   ·clear C32
    go_wp2_with fail
    refine (C35.out.callE (pexpr_any C35.out.hL _ _ C35.out.ps)).mono ?_
    rintro e w37 (⟨x1, p1, N1, c1, k1, rfl, hlt1, hn1, C37⟩ | ⟨t, rfl, HB⟩)
    ·clear C35
     obtain ⟨l0, c00, f00, c01, f01, c02, f02, c03, f03, c04, f04⟩ := cells5 (C37.out.m.b 0 rfl)
     go_wp2_with fail
     exact C37.out.retSb (x := .mk 6 ⟨#[]⟩ [x1] [] []) 0 rfl (by omega) Tryz.results177 rfl rfl (fun U g b o => ⟨bd_stmt (k := 6) (by decide) size_nil, slE_blk1 g (o 0 rfl).1 (o 0 rfl).2, .nil none 0, .nil none 0⟩)
    ·go_wp2_with fail
     exact ⟨rfl, HB.out.pq⟩
   ·clear C32
    go_wp2_with fail
    refine (C35.out.take ⟨#[109, 111, 118, 101]⟩ (by decide)).mono ?_
    rintro e w38 (⟨rfl, hlt39, C38⟩ | ⟨rfl, C38⟩)
    ·clear C35
     go_wp2_with fail
     refine (C38.out.callE (pexpr_any C38.out.hL _ _ C38.out.ps)).mono ?_
     rintro e w40 (⟨x1, p1, N1, c1, k1, rfl, hlt1, hn1, C40⟩ | ⟨t, rfl, HB⟩)
     ·clear C38
      obtain ⟨X, w41, HX, HW, hx41, C41⟩ := C40.out.boxE #[.int .i64 x1.kind, .int .i64 x1.op, .int .i64 x1.int, .string x1.name, .bool x1.at_, .slice p1 N1 c1] 33
      go_upto_region 9 with fail
      rw [← HX.out, ← HW.out]
      clear HX HW C40
      go_wp2_with fail
      refine (C41.out.exp ⟨#[116, 111]⟩ (by decide)).mono ?_
      rintro e w43 (⟨rfl, hlt42, C43⟩ | ⟨t, rfl, HB⟩)
      ·clear C41
       go_upto_region 10 with fail
       obtain ⟨w44, HW, C44⟩ := C43.out.drewE
       refine wp_region_held_drew (S := fun _ => True) (by kernel_rfl) trivial (fun _ => ?_)
       rw [← HW.out]
       clear HW C43
       refine rT 1 (some 35) ?_
       try simp only [Act.put, q0, q1, q2]
       refine rR2 0 (some 34) 2 (some 36) (fun K hK => ?_) (fun K hK => ?_)
       ·obtain ⟨l0, c00, f00, c01, f01, c02, f02, c03, f03, c04, f04, c05, f05⟩ := cells6 (C44.out.m.b 0 rfl)
        go_simp
        refine hK.out _ _ trivial (fun _ => ?_)
        clear hK K
        try simp only [Act.put, q0, q1, q2]
        clear l0 c00 f00 c01 f01 c02 f02 c03 f03 c04 f04 c05 f05
        refine rR1 2 (some 36) (fun K hK => ?_)
        go_simp
        refine (C44.out.callE (pexpr_any C44.out.hL _ _ C44.out.ps)).mono ?_
        rintro e w45 (⟨x2, p2, N2, c2, k2, rfl, hlt2, hn2, C45⟩ | ⟨t, rfl, HB⟩)
        ·clear C44
         go_wp2_with fail
         refine hK.out _ _ trivial (fun _ => ?_)
         clear hK K
         try simp only [Act.put, q0, q1, q2]
         refine rR1 3 (some 37) (fun K hK => ?_)
         obtain ⟨X46, w46, HX, HW, hx46, C46⟩ := C45.out.boxE #[.int .i64 x1.kind, .int .i64 x1.op, .int .i64 x1.int, .string x1.name, .bool x1.at_, .slice p1 N1 c1, .int .i64 x2.kind, .int .i64 x2.op, .int .i64 x2.int, .string x2.name, .bool x2.at_, .slice p2 N2 c2] 33
         go_simp
         refine hK.out _ _ trivial (fun _ => ?_)
         clear hK K
         try simp only [Act.put, q0, q1, q2]
         rw [← HX.out, ← HW.out]
         clear HX HW C45
         refine rT 4 (some 38) ?_
         try simp only [Act.put, q0, q1, q2]
         refine rR1 5 none (fun K hK => ?_)
         obtain ⟨l2, c20, f20, c21, f21, c22, f22, c23, f23, c24, f24⟩ := cells5 (C46.out.m.b 2 rfl)
         go_simp
         refine hK.out _ _ trivial (fun _ => ?_)
         clear hK K
         try simp only [Act.put, q0, q1, q2]
         refine wpAnyH_done (by kernel_rfl) ?_ _
         clear l2 c20 f20 c21 f21 c22 f22 c23 f23 c24 f24
         go_wp2_with fail
         exact C46.out.retS (x := .mk 7 ⟨#[]⟩ [x1, x2] [] []) 2 rfl (by omega) Tryz.results177 rfl rfl (fun U b o => ⟨bd_stmt (k := 7) (by decide) size_nil, slE_blk2 (b 0 (by decide) rfl) (o 1 rfl) (o 0 rfl), .nil none 0, .nil none 0⟩)
        ·go_wp2_with fail
         exact ⟨rfl, HB.out.pq⟩
       ·go_simp
        refine (C44.out.callE (pexpr_any C44.out.hL _ _ C44.out.ps)).mono ?_
        rintro e w47 (⟨x2, p2, N2, c2, k2, rfl, hlt2, hn2, C47⟩ | ⟨t, rfl, HB⟩)
        ·clear C44
         go_wp2_with fail
         refine hK.out _ _ trivial (fun _ => ?_)
         clear hK K
         try simp only [Act.put, q0, q1, q2]
         refine rR1 0 (some 34) (fun K hK => ?_)
         obtain ⟨l0, c00, f00, c01, f01, c02, f02, c03, f03, c04, f04, c05, f05⟩ := cells6 (C47.out.m.b 0 rfl)
         go_simp
         refine hK.out _ _ trivial (fun _ => ?_)
         clear hK K
         try simp only [Act.put, q0, q1, q2]
         clear l0 c00 f00 c01 f01 c02 f02 c03 f03 c04 f04 c05 f05
         refine rR1 3 (some 37) (fun K hK => ?_)
         obtain ⟨X48, w48, HX, HW, hx48, C48⟩ := C47.out.boxE #[.int .i64 x1.kind, .int .i64 x1.op, .int .i64 x1.int, .string x1.name, .bool x1.at_, .slice p1 N1 c1, .int .i64 x2.kind, .int .i64 x2.op, .int .i64 x2.int, .string x2.name, .bool x2.at_, .slice p2 N2 c2] 33
         go_simp
         refine hK.out _ _ trivial (fun _ => ?_)
         clear hK K
         try simp only [Act.put, q0, q1, q2]
         rw [← HX.out, ← HW.out]
         clear HX HW C47
         refine rT 4 (some 38) ?_
         try simp only [Act.put, q0, q1, q2]
         refine rR1 5 none (fun K hK => ?_)
         obtain ⟨l2, c20, f20, c21, f21, c22, f22, c23, f23, c24, f24⟩ := cells5 (C48.out.m.b 2 rfl)
         go_simp
         refine hK.out _ _ trivial (fun _ => ?_)
         clear hK K
         try simp only [Act.put, q0, q1, q2]
         refine wpAnyH_done (by kernel_rfl) ?_ _
         clear l2 c20 f20 c21 f21 c22 f22 c23 f23 c24 f24
         go_wp2_with fail
         exact C48.out.retS (x := .mk 7 ⟨#[]⟩ [x1, x2] [] []) 2 rfl (by omega) Tryz.results177 rfl rfl (fun U b o => ⟨bd_stmt (k := 7) (by decide) size_nil, slE_blk2 (b 0 (by decide) rfl) (o 1 rfl) (o 0 rfl), .nil none 0, .nil none 0⟩)
        ·go_wp2_with fail
         exact ⟨rfl, HB.out.pq⟩
      ·go_wp2_with fail
       exact ⟨rfl, HB.out.pq⟩
     ·go_wp2_with fail
      exact ⟨rfl, HB.out.pq⟩
    ·clear C35
     go_wp2_with fail
     refine (C38.out.take ⟨#[119, 97, 116, 99, 104]⟩ (by decide)).mono ?_
     rintro e w49 (⟨rfl, hlt50, C49⟩ | ⟨rfl, C49⟩)
     ·clear C38
      go_wp2_with fail
      refine (C49.out.callE (pexpr_any C49.out.hL _ _ C49.out.ps)).mono ?_
      rintro e w51 (⟨x1, p1, N1, c1, k1, rfl, hlt1, hn1, C51⟩ | ⟨t, rfl, HB⟩)
      ·clear C49
       obtain ⟨X, w52, HX, HW, hx52, C52⟩ := C51.out.boxE #[.int .i64 x1.kind, .int .i64 x1.op, .int .i64 x1.int, .string x1.name, .bool x1.at_, .slice p1 N1 c1] 33
       go_upto_region 13 with fail
       rw [← HX.out, ← HW.out]
       clear HX HW C51
       go_wp2_with fail
       refine (C52.out.exp ⟨#[98, 121]⟩ (by decide)).mono ?_
       rintro e w54 (⟨rfl, hlt53, C54⟩ | ⟨t, rfl, HB⟩)
       ·clear C52
        go_wp2_with fail
        refine (C54.out.name).mono ?_
        rintro e w55 (⟨s2, rfl, hlt2, hsz2, C55⟩ | ⟨t, rfl, HB⟩)
        ·clear C54
         go_wp2_with fail
         refine (C55.out.exp ⟨#[40]⟩ (by decide)).mono ?_
         rintro e w57 (⟨rfl, hlt56, C57⟩ | ⟨t, rfl, HB⟩)
         ·clear C55
          go_wp2_with fail
          refine (C57.out.callE (pexpr_any C57.out.hL _ _ C57.out.ps)).mono ?_
          rintro e w58 (⟨x3, p3, N3, c3, k3, rfl, hlt3, hn3, C58⟩ | ⟨t, rfl, HB⟩)
          ·clear C57
           obtain ⟨Y, w59, HX, HW, hx59, C59⟩ := C58.out.boxE #[.int .i64 x3.kind, .int .i64 x3.op, .int .i64 x3.int, .string x3.name, .bool x3.at_, .slice p3 N3 c3] 33
           go_upto_region 17 with fail
           rw [← HX.out, ← HW.out]
           clear HX HW C58
           go_wp2_with fail
           refine (C59.out.exp ⟨#[41]⟩ (by decide)).mono ?_
           rintro e w61 (⟨rfl, hlt60, C61⟩ | ⟨t, rfl, HB⟩)
           ·clear C59
            obtain ⟨l0, c00, f00, c01, f01, c02, f02, c03, f03, c04, f04, c05, f05⟩ := cells6 (C61.out.m.b 0 rfl)
            obtain ⟨l1, c10, f10, c11, f11, c12, f12, c13, f13, c14, f14, c15, f15⟩ := cells6 (C61.out.m.b 1 rfl)
            obtain ⟨l2, c20, f20, c21, f21, c22, f22, c23, f23, c24, f24⟩ := cells5 (C61.out.m.b 2 rfl)
            go_wp2_with fail
            exact C61.out.retSb (x := .mk 8 s2 [x1, x3] [] []) 2 rfl (by omega) Tryz.results177 rfl rfl (fun U g b o => ⟨bd_stmt (k := 8) (by decide) hsz2, slE_blk2 g (o 1 rfl) (o 0 rfl), .nil none 0, .nil none 0⟩)
           ·go_wp2_with fail
            exact ⟨rfl, HB.out.pq⟩
          ·go_wp2_with fail
           exact ⟨rfl, HB.out.pq⟩
         ·go_wp2_with fail
          exact ⟨rfl, HB.out.pq⟩
        ·go_wp2_with fail
         exact ⟨rfl, HB.out.pq⟩
       ·go_wp2_with fail
        exact ⟨rfl, HB.out.pq⟩
      ·go_wp2_with fail
       exact ⟨rfl, HB.out.pq⟩
     ·clear C38
      go_wp2_with fail
      refine (C49.out.take ⟨#[114, 101, 116, 117, 114, 110]⟩ (by decide)).mono ?_
      rintro e w62 (⟨rfl, hlt63, C62⟩ | ⟨rfl, C62⟩)
      ·clear C49
       obtain ⟨l0, c00, f00, c01, f01, c02, f02, c03, f03, c04, f04⟩ := cells5 (C62.out.m.b 0 rfl)
       go_wp2_with fail
       exact C62.out.retS (x := .mk 9 ⟨#[]⟩ [] [] []) 0 rfl (by omega) Tryz.results177 rfl rfl (fun U b o => ⟨bd_stmt (k := 9) (by decide) size_nil, .nil none 0, .nil none 0, .nil none 0⟩)
      ·clear C49
       by_cases hc : (((Pa.rest L n k).headD default).kind = 2 ∧ Pa.is [61] (Pa.rest L n k).tail = true)
       ·have h2 : t.kind = 2 := (head_kind C62.out.hL C62.out.le HT.out).symm.trans hc.1
        have hlt := kind_lt C62.out.hL C62.out.le HT.out (by omega)
        obtain ⟨t1, ht1⟩ := C62.out.hL.get (k := k + 1) (by omega)
        have he := hc.2
        rw [eq_at C62.out.hL HQ.out hlt ht1, Bool.and_eq_true, beq_iff_eq, beq_iff_eq] at he
        obtain ⟨hk5, hx⟩ := he
        have HT1 := Lib.hid ht1
        have HC := Lib.hid hc
        have HX1 := Lib.hid hx
        have k2t : ((t.kind : Int) == 2) = true := by rw [show ((2 : Int)) = ((2 : Nat) : Int) from rfl, kind_beq, h2, beq_self_eq_true]
        have k5t : ((t1.kind : Int) == 5) = true := by rw [show ((5 : Int)) = ((5 : Nat) : Int) from rfl, kind_beq, hk5, beq_self_eq_true]
        clear h2 ht1 hk5 hc hx
        go_upto_region 21 with fail
        go_cut [66] (fun s66 wx => s66 = .bool true ∧ Hid (Below w62.heap.size w62 wx))
        case first =>
         have pc0 := cell_of_blkP C62.out.ps.blk (j := 0) (u := .slice (some ⟨tbk, 0, none⟩) (n + 1) tc) rfl
         have pc1 := cell_of_blkP C62.out.ps.blk (j := 1) (u := .int .i64 k) rfl
         obtain ⟨pc2, pc3, pc4, pc5⟩ := C62.out.ps.toks (k + 1) t1 HT1.out
         rw [HX1.out] at pc3
         have hfewn := C62.out.hL.few
         have hcap := C62.out.ps.cap
         have hz1 : (0 : Int) ≤ (k : Int) := by omega
         have hz2 : (k : Int) < (n : Int) := by omega
         have hz3 : (k : Int) + 1 < (n : Int) + 1 := by omega
         have hz4 : (0 : Int) ≤ (k : Int) + 1 := by omega
         have hw2 : ((k : Int) + 1).toNat = k + 1 := by omega
         have hw3 : decide ((k : Int) + 1 < (n : Int) + 1) = true := decide_eq_true hz3
         have hw1 : IntKind.i64.wrap ((k : Int) + 1) = (k : Int) + 1 := IntWalk.i64_in _ ⟨by omega, by omega⟩
         clear hcap
         refine wp_region_held_drew (S := fun W => W.cell? ⟨P, 0, none⟩ = some (.slice (some ⟨tbk, 0, none⟩) (n + 1) tc) ∧ W.cell? ⟨P, 1, none⟩ = some (.int .i64 k) ∧ W.cell? ⟨tbk, (k + 1) * 4, none⟩ = some (.int .i64 t1.kind) ∧ W.cell? ⟨tbk, (k + 1) * 4 + 1, none⟩ = some (.string ⟨#[61]⟩) ∧ W.cell? ⟨tbk, (k + 1) * 4 + 2, none⟩ = some (.int .i64 t1.val) ∧ W.cell? ⟨tbk, (k + 1) * 4 + 3, none⟩ = some (.int .i64 t1.pos) ∧ Hid (Below w62.heap.size w62 W)) (by kernel_rfl) ?_ (fun hHeld => ?_)
         ·exact ⟨pc0, pc1, pc2, pc3, pc4, pc5, Lib.hid (Below.refl w62.heap.size w62).drew⟩
         clear pc0 pc1 pc2 pc3 pc4 pc5
         refine rT 0 (some 67) ?_
         try simp only [Act.put, q0, q1, q2]
         refine rR1 1 (some 68) (fun K hK => ?_)
         go_simp
         with_reducible refine (next_any (C62.out.ps.below hHeld.2.2.2.2.2.2.out) C62.out.hL HT.out).mono ?_
         rintro e w' ⟨rfl, hb⟩
         unfold tkV
         go_wp2_with fail
         refine hK.out _ _ ?_ (fun hHeld => ?_)
         ·exact ⟨cell_keep' hb hHeld.1, cell_keep' hb hHeld.2.1, cell_keep' hb hHeld.2.2.1, cell_keep' hb hHeld.2.2.2.1, cell_keep' hb hHeld.2.2.2.2.1, cell_keep' hb hHeld.2.2.2.2.2.1, Lib.hid (below_next hHeld.2.2.2.2.2.2.out hb)⟩
         clear hK K
         try simp only [Act.put, q0, q1, q2]
         clear hb
         refine rT 2 (some 69) ?_
         try simp only [Act.put, q0, q1, q2]
         refine rT 3 (some 70) ?_
         try simp only [Act.put, q0, q1, q2]
         refine rT 4 (some 71) ?_
         try simp only [Act.put, q0, q1, q2]
         refine rT 5 (some 72) ?_
         try simp only [Act.put, q0, q1, q2]
         refine rT 6 (some 73) ?_
         try simp only [Act.put, q0, q1, q2]
         refine rT 7 (some 74) ?_
         try simp only [Act.put, q0, q1, q2]
         refine rT 8 (some 75) ?_
         try simp only [Act.put, q0, q1, q2]
         refine rT 9 (some 76) ?_
         try simp only [Act.put, q0, q1, q2]
         refine rT 10 (some 77) ?_
         try simp only [Act.put, q0, q1, q2]
         refine rT 11 (some 78) ?_
         try simp only [Act.put, q0, q1, q2]
         refine rT 12 (some 79) ?_
         try simp only [Act.put, q0, q1, q2]
         refine rT 13 (some 80) ?_
         try simp only [Act.put, q0, q1, q2]
         refine rT 14 (some 81) ?_
         try simp only [Act.put, q0, q1, q2]
         refine rT 15 (some 82) ?_
         try simp only [Act.put, q0, q1, q2]
         refine rT 16 (some 83) ?_
         try simp only [Act.put, q0, q1, q2]
         refine rT 17 (some 84) ?_
         try simp only [Act.put, q0, q1, q2]
         refine rT 18 (some 85) ?_
         try simp only [Act.put, q0, q1, q2]
         refine rT 19 (some 86) ?_
         try simp only [Act.put, q0, q1, q2]
         refine rT 20 (some 87) ?_
         try simp only [Act.put, q0, q1, q2]
         refine rT 21 (some 88) ?_
         try simp only [Act.put, q0, q1, q2]
         refine rT 22 (some 89) ?_
         try simp only [Act.put, q0, q1, q2]
         refine rT 23 (some 90) ?_
         try simp only [Act.put, q0, q1, q2]
         refine rT 24 (some 91) ?_
         try simp only [Act.put, q0, q1, q2]
         refine rT 25 (some 92) ?_
         try simp only [Act.put, q0, q1, q2]
         refine rT 26 (some 93) ?_
         try simp only [Act.put, q0, q1, q2]
         refine rT 27 (some 94) ?_
         try simp only [Act.put, q0, q1, q2]
         refine rT 28 (some 95) ?_
         try simp only [Act.put, q0, q1, q2]
         refine rT 29 (some 96) ?_
         try simp only [Act.put, q0, q1, q2]
         refine rT 30 (some 97) ?_
         try simp only [Act.put, q0, q1, q2]
         refine rT 31 (some 98) ?_
         try simp only [Act.put, q0, q1, q2]
         refine rT 32 (some 99) ?_
         try simp only [Act.put, q0, q1, q2]
         refine rT 33 (some 100) ?_
         try simp only [Act.put, q0, q1, q2]
         refine rT 34 (some 101) ?_
         try simp only [Act.put, q0, q1, q2]
         refine rT 35 (some 102) ?_
         try simp only [Act.put, q0, q1, q2]
         refine rT 36 (some 103) ?_
         try simp only [Act.put, q0, q1, q2]
         refine rT 37 (some 104) ?_
         try simp only [Act.put, q0, q1, q2]
         refine rT 38 (some 105) ?_
         try simp only [Act.put, q0, q1, q2]
         refine rT 39 (some 106) ?_
         try simp only [Act.put, q0, q1, q2]
         refine rT 40 (some 107) ?_
         try simp only [Act.put, q0, q1, q2]
         refine rT 41 (some 108) ?_
         try simp only [Act.put, q0, q1, q2]
         refine rT 42 (some 109) ?_
         try simp only [Act.put, q0, q1, q2]
         refine rT 43 (some 110) ?_
         try simp only [Act.put, q0, q1, q2]
         refine rT 44 (some 111) ?_
         try simp only [Act.put, q0, q1, q2]
         refine rT 45 (some 112) ?_
         try simp only [Act.put, q0, q1, q2]
         refine rT 46 (some 113) ?_
         try simp only [Act.put, q0, q1, q2]
         refine rT 47 (some 66) ?_
         try simp only [Act.put, q0, q1, q2]
         refine wpAnyH_done (by kernel_rfl) ?_ _
         have HZ := Lib.hid hHeld.2.2.2.2.2.2.out
         clear hHeld
         go_wp2_with fail
         go_meet
         exact ⟨rfl, HZ⟩
        case rest =>
         obtain ⟨rfl, HZ⟩ := hcut
         have C64 := Lib.hid ((C62.out.keep HZ.out).at0 (G' := fun f ts => (Pa.pSet f 1 ts).bind fun s r => .ok s r) (fun f => (if_pos HC.out).trans (Pa.R.eta _)))
         clear HZ C62
         go_wp2_with fail
         refine (C64.out.callS (assign_any C64.out.hL 1 (by decide) _ _ C64.out.ps)).mono ?_
         rintro e w65 (⟨s1, px1, Nx1, cx1, py1, Ny1, cy1, pz1, Nz1, cz1, k1, rfl, hlt1, hn1, C65⟩ | ⟨t, rfl, HB⟩)
         ·clear C64
          obtain ⟨l0, c00, f00, c01, f01, c02, f02, c03, f03, c04, f04⟩ := cells5 (C65.out.m.b 0 rfl)
          go_wp2_with fail
          exact C65.out.retS (x := s1) 0 rfl (by omega) Tryz.results177 rfl rfl (fun U b o => o 0 rfl)
         ·go_wp2_with fail
          exact ⟨rfl, HB.out.pq⟩
       ·have HC := Lib.hid hc
        clear hc
        go_upto_region 21 with fail
        go_cut [66] (fun s66 wx => s66 = .bool false ∧ Hid (Below w62.heap.size w62 wx))
        case first =>
         by_cases hk2 : t.kind = 2
         ·have hlt := kind_lt C62.out.hL C62.out.le HT.out (by omega)
          obtain ⟨t1, ht1⟩ := C62.out.hL.get (k := k + 1) (by omega)
          have HT1 := Lib.hid ht1
          have heq := eq_at C62.out.hL HQ.out hlt ht1
          have hhk := (head_kind C62.out.hL C62.out.le HT.out).trans hk2
          have k2t : ((t.kind : Int) == 2) = true := by rw [show ((2 : Int)) = ((2 : Nat) : Int) from rfl, kind_beq, hk2, beq_self_eq_true]
          by_cases hk5 : t1.kind = 5
          ·have hx1 : (t1.text == [61]) = false := by
            cases hb : (t1.text == [61]) with
            | false => rfl
            | true => exact absurd ⟨hhk, by rw [heq, hk5, hb]; rfl⟩ HC.out
           have k5t : ((t1.kind : Int) == 5) = true := by rw [show ((5 : Int)) = ((5 : Nat) : Int) from rfl, kind_beq, hk5, beq_self_eq_true]
           have hx2 : ¬ t1.text = [61] := beq_eq_false_iff_ne.1 hx1
           clear ht1 heq hhk hk5 hk2
           have pc0 := cell_of_blkP C62.out.ps.blk (j := 0) (u := .slice (some ⟨tbk, 0, none⟩) (n + 1) tc) rfl
           have pc1 := cell_of_blkP C62.out.ps.blk (j := 1) (u := .int .i64 k) rfl
           obtain ⟨pc2, pc3, pc4, pc5⟩ := C62.out.ps.toks (k + 1) t1 HT1.out
           have hfewn := C62.out.hL.few
           have hcap := C62.out.ps.cap
           have hz1 : (0 : Int) ≤ (k : Int) := by omega
           have hz2 : (k : Int) < (n : Int) := by omega
           have hz3 : (k : Int) + 1 < (n : Int) + 1 := by omega
           have hz4 : (0 : Int) ≤ (k : Int) + 1 := by omega
           have hw2 : ((k : Int) + 1).toNat = k + 1 := by omega
           have hw3 : decide ((k : Int) + 1 < (n : Int) + 1) = true := decide_eq_true hz3
           have hw1 : IntKind.i64.wrap ((k : Int) + 1) = (k : Int) + 1 := IntWalk.i64_in _ ⟨by omega, by omega⟩
           clear hcap
           refine wp_region_held_drew (S := fun W => W.cell? ⟨P, 0, none⟩ = some (.slice (some ⟨tbk, 0, none⟩) (n + 1) tc) ∧ W.cell? ⟨P, 1, none⟩ = some (.int .i64 k) ∧ W.cell? ⟨tbk, (k + 1) * 4, none⟩ = some (.int .i64 t1.kind) ∧ W.cell? ⟨tbk, (k + 1) * 4 + 1, none⟩ = some (.string ⟨t1.text.toArray⟩) ∧ W.cell? ⟨tbk, (k + 1) * 4 + 2, none⟩ = some (.int .i64 t1.val) ∧ W.cell? ⟨tbk, (k + 1) * 4 + 3, none⟩ = some (.int .i64 t1.pos) ∧ Hid (Below w62.heap.size w62 W)) (by kernel_rfl) ?_ (fun hHeld => ?_)
           ·exact ⟨pc0, pc1, pc2, pc3, pc4, pc5, Lib.hid (Below.refl w62.heap.size w62).drew⟩
           clear pc0 pc1 pc2 pc3 pc4 pc5
           refine rT 0 (some 67) ?_
           try simp only [Act.put, q0, q1, q2]
           refine rR1 1 (some 68) (fun K hK => ?_)
           go_simp
           with_reducible refine (next_any (C62.out.ps.below hHeld.2.2.2.2.2.2.out) C62.out.hL HT.out).mono ?_
           rintro e w' ⟨rfl, hb⟩
           unfold tkV
           go_wp2_with fail
           refine hK.out _ _ ?_ (fun hHeld => ?_)
           ·exact ⟨cell_keep' hb hHeld.1, cell_keep' hb hHeld.2.1, cell_keep' hb hHeld.2.2.1, cell_keep' hb hHeld.2.2.2.1, cell_keep' hb hHeld.2.2.2.2.1, cell_keep' hb hHeld.2.2.2.2.2.1, Lib.hid (below_next hHeld.2.2.2.2.2.2.out hb)⟩
           clear hK K
           try simp only [Act.put, q0, q1, q2]
           clear hb
           refine rT 2 (some 69) ?_
           try simp only [Act.put, q0, q1, q2]
           refine rT 3 (some 70) ?_
           try simp only [Act.put, q0, q1, q2]
           refine rT 4 (some 71) ?_
           try simp only [Act.put, q0, q1, q2]
           refine rT 5 (some 72) ?_
           try simp only [Act.put, q0, q1, q2]
           refine rT 6 (some 73) ?_
           try simp only [Act.put, q0, q1, q2]
           refine rT 7 (some 74) ?_
           try simp only [Act.put, q0, q1, q2]
           refine rT 8 (some 75) ?_
           try simp only [Act.put, q0, q1, q2]
           refine rT 9 (some 76) ?_
           try simp only [Act.put, q0, q1, q2]
           refine rT 10 (some 77) ?_
           try simp only [Act.put, q0, q1, q2]
           refine rT 11 (some 78) ?_
           try simp only [Act.put, q0, q1, q2]
           refine rT 12 (some 79) ?_
           try simp only [Act.put, q0, q1, q2]
           refine rT 13 (some 80) ?_
           try simp only [Act.put, q0, q1, q2]
           refine rT 14 (some 81) ?_
           try simp only [Act.put, q0, q1, q2]
           refine rT 15 (some 82) ?_
           try simp only [Act.put, q0, q1, q2]
           refine rT 16 (some 83) ?_
           try simp only [Act.put, q0, q1, q2]
           refine rT 17 (some 84) ?_
           try simp only [Act.put, q0, q1, q2]
           refine rT 18 (some 85) ?_
           try simp only [Act.put, q0, q1, q2]
           refine rT 19 (some 86) ?_
           try simp only [Act.put, q0, q1, q2]
           refine rT 20 (some 87) ?_
           try simp only [Act.put, q0, q1, q2]
           refine rT 21 (some 88) ?_
           try simp only [Act.put, q0, q1, q2]
           refine rT 22 (some 89) ?_
           try simp only [Act.put, q0, q1, q2]
           refine rT 23 (some 90) ?_
           try simp only [Act.put, q0, q1, q2]
           refine rT 24 (some 91) ?_
           try simp only [Act.put, q0, q1, q2]
           refine rT 25 (some 92) ?_
           try simp only [Act.put, q0, q1, q2]
           refine rT 26 (some 93) ?_
           try simp only [Act.put, q0, q1, q2]
           refine rT 27 (some 94) ?_
           try simp only [Act.put, q0, q1, q2]
           refine rT 28 (some 95) ?_
           try simp only [Act.put, q0, q1, q2]
           refine rT 29 (some 96) ?_
           try simp only [Act.put, q0, q1, q2]
           refine rT 30 (some 97) ?_
           try simp only [Act.put, q0, q1, q2]
           refine rT 31 (some 98) ?_
           try simp only [Act.put, q0, q1, q2]
           refine rT 32 (some 99) ?_
           try simp only [Act.put, q0, q1, q2]
           refine rT 33 (some 100) ?_
           try simp only [Act.put, q0, q1, q2]
           refine rT 34 (some 101) ?_
           try simp only [Act.put, q0, q1, q2]
           refine rT 35 (some 102) ?_
           try simp only [Act.put, q0, q1, q2]
           refine rT 36 (some 103) ?_
           try simp only [Act.put, q0, q1, q2]
           refine rT 37 (some 104) ?_
           try simp only [Act.put, q0, q1, q2]
           refine rT 38 (some 105) ?_
           try simp only [Act.put, q0, q1, q2]
           refine rT 39 (some 106) ?_
           try simp only [Act.put, q0, q1, q2]
           refine rT 40 (some 107) ?_
           try simp only [Act.put, q0, q1, q2]
           refine rT 41 (some 108) ?_
           try simp only [Act.put, q0, q1, q2]
           refine rT 42 (some 109) ?_
           try simp only [Act.put, q0, q1, q2]
           refine rT 43 (some 110) ?_
           try simp only [Act.put, q0, q1, q2]
           refine rT 44 (some 111) ?_
           try simp only [Act.put, q0, q1, q2]
           refine rT 45 (some 112) ?_
           try simp only [Act.put, q0, q1, q2]
           refine rT 46 (some 113) ?_
           try simp only [Act.put, q0, q1, q2]
           refine rT 47 (some 66) ?_
           try simp only [Act.put, q0, q1, q2]
           refine wpAnyH_done (by kernel_rfl) ?_ _
           have HZ := Lib.hid hHeld.2.2.2.2.2.2.out
           clear hHeld
           go_wp2_with fail
           go_meet
           exact ⟨rfl, HZ⟩
          ·have k5f : ((t1.kind : Int) == 5) = false := by rw [show ((5 : Int)) = ((5 : Nat) : Int) from rfl, kind_beq, beq_eq_false_iff_ne.2 hk5]
           clear ht1 heq hhk hk5 hk2
           have pc0 := cell_of_blkP C62.out.ps.blk (j := 0) (u := .slice (some ⟨tbk, 0, none⟩) (n + 1) tc) rfl
           have pc1 := cell_of_blkP C62.out.ps.blk (j := 1) (u := .int .i64 k) rfl
           obtain ⟨pc2, pc3, pc4, pc5⟩ := C62.out.ps.toks (k + 1) t1 HT1.out
           have hfewn := C62.out.hL.few
           have hcap := C62.out.ps.cap
           have hz1 : (0 : Int) ≤ (k : Int) := by omega
           have hz2 : (k : Int) < (n : Int) := by omega
           have hz3 : (k : Int) + 1 < (n : Int) + 1 := by omega
           have hz4 : (0 : Int) ≤ (k : Int) + 1 := by omega
           have hw2 : ((k : Int) + 1).toNat = k + 1 := by omega
           have hw3 : decide ((k : Int) + 1 < (n : Int) + 1) = true := decide_eq_true hz3
           have hw1 : IntKind.i64.wrap ((k : Int) + 1) = (k : Int) + 1 := IntWalk.i64_in _ ⟨by omega, by omega⟩
           clear hcap
           refine wp_region_held_drew (S := fun W => W.cell? ⟨P, 0, none⟩ = some (.slice (some ⟨tbk, 0, none⟩) (n + 1) tc) ∧ W.cell? ⟨P, 1, none⟩ = some (.int .i64 k) ∧ W.cell? ⟨tbk, (k + 1) * 4, none⟩ = some (.int .i64 t1.kind) ∧ W.cell? ⟨tbk, (k + 1) * 4 + 1, none⟩ = some (.string ⟨t1.text.toArray⟩) ∧ W.cell? ⟨tbk, (k + 1) * 4 + 2, none⟩ = some (.int .i64 t1.val) ∧ W.cell? ⟨tbk, (k + 1) * 4 + 3, none⟩ = some (.int .i64 t1.pos) ∧ Hid (Below w62.heap.size w62 W)) (by kernel_rfl) ?_ (fun hHeld => ?_)
           ·exact ⟨pc0, pc1, pc2, pc3, pc4, pc5, Lib.hid (Below.refl w62.heap.size w62).drew⟩
           clear pc0 pc1 pc2 pc3 pc4 pc5
           refine rT 0 (some 67) ?_
           try simp only [Act.put, q0, q1, q2]
           refine rR1 1 (some 68) (fun K hK => ?_)
           go_simp
           with_reducible refine (next_any (C62.out.ps.below hHeld.2.2.2.2.2.2.out) C62.out.hL HT.out).mono ?_
           rintro e w' ⟨rfl, hb⟩
           unfold tkV
           go_wp2_with fail
           refine hK.out _ _ ?_ (fun hHeld => ?_)
           ·exact ⟨cell_keep' hb hHeld.1, cell_keep' hb hHeld.2.1, cell_keep' hb hHeld.2.2.1, cell_keep' hb hHeld.2.2.2.1, cell_keep' hb hHeld.2.2.2.2.1, cell_keep' hb hHeld.2.2.2.2.2.1, Lib.hid (below_next hHeld.2.2.2.2.2.2.out hb)⟩
           clear hK K
           try simp only [Act.put, q0, q1, q2]
           clear hb
           refine rT 2 (some 69) ?_
           try simp only [Act.put, q0, q1, q2]
           refine rT 3 (some 70) ?_
           try simp only [Act.put, q0, q1, q2]
           refine rT 4 (some 71) ?_
           try simp only [Act.put, q0, q1, q2]
           refine rT 5 (some 72) ?_
           try simp only [Act.put, q0, q1, q2]
           refine rT 6 (some 73) ?_
           try simp only [Act.put, q0, q1, q2]
           refine rT 7 (some 74) ?_
           try simp only [Act.put, q0, q1, q2]
           refine rT 8 (some 75) ?_
           try simp only [Act.put, q0, q1, q2]
           refine rT 9 (some 76) ?_
           try simp only [Act.put, q0, q1, q2]
           refine rT 10 (some 77) ?_
           try simp only [Act.put, q0, q1, q2]
           refine rT 11 (some 78) ?_
           try simp only [Act.put, q0, q1, q2]
           refine rT 12 (some 79) ?_
           try simp only [Act.put, q0, q1, q2]
           refine rT 13 (some 80) ?_
           try simp only [Act.put, q0, q1, q2]
           refine rT 14 (some 81) ?_
           try simp only [Act.put, q0, q1, q2]
           refine rT 15 (some 82) ?_
           try simp only [Act.put, q0, q1, q2]
           refine rT 16 (some 83) ?_
           try simp only [Act.put, q0, q1, q2]
           refine rT 17 (some 84) ?_
           try simp only [Act.put, q0, q1, q2]
           refine rT 18 (some 85) ?_
           try simp only [Act.put, q0, q1, q2]
           refine rT 19 (some 86) ?_
           try simp only [Act.put, q0, q1, q2]
           refine rT 20 (some 87) ?_
           try simp only [Act.put, q0, q1, q2]
           refine rT 21 (some 88) ?_
           try simp only [Act.put, q0, q1, q2]
           refine rT 22 (some 89) ?_
           try simp only [Act.put, q0, q1, q2]
           refine rT 23 (some 90) ?_
           try simp only [Act.put, q0, q1, q2]
           refine rT 24 (some 91) ?_
           try simp only [Act.put, q0, q1, q2]
           refine rT 25 (some 92) ?_
           try simp only [Act.put, q0, q1, q2]
           refine rT 26 (some 93) ?_
           try simp only [Act.put, q0, q1, q2]
           refine rT 27 (some 94) ?_
           try simp only [Act.put, q0, q1, q2]
           refine rT 28 (some 95) ?_
           try simp only [Act.put, q0, q1, q2]
           refine rT 29 (some 96) ?_
           try simp only [Act.put, q0, q1, q2]
           refine rT 30 (some 97) ?_
           try simp only [Act.put, q0, q1, q2]
           refine rT 31 (some 98) ?_
           try simp only [Act.put, q0, q1, q2]
           refine rT 32 (some 99) ?_
           try simp only [Act.put, q0, q1, q2]
           refine rK 33 (some 100) ?_
           try simp only [Act.put, q0, q1, q2]
           refine rK 34 (some 101) ?_
           try simp only [Act.put, q0, q1, q2]
           refine rK 35 (some 102) ?_
           try simp only [Act.put, q0, q1, q2]
           refine rK 36 (some 103) ?_
           try simp only [Act.put, q0, q1, q2]
           refine rK 37 (some 104) ?_
           try simp only [Act.put, q0, q1, q2]
           refine rK 38 (some 105) ?_
           try simp only [Act.put, q0, q1, q2]
           refine rK 39 (some 106) ?_
           try simp only [Act.put, q0, q1, q2]
           refine rK 40 (some 107) ?_
           try simp only [Act.put, q0, q1, q2]
           refine rK 41 (some 108) ?_
           try simp only [Act.put, q0, q1, q2]
           refine rK 42 (some 109) ?_
           try simp only [Act.put, q0, q1, q2]
           refine rK 43 (some 110) ?_
           try simp only [Act.put, q0, q1, q2]
           refine rK 44 (some 111) ?_
           try simp only [Act.put, q0, q1, q2]
           refine rK 45 (some 112) ?_
           try simp only [Act.put, q0, q1, q2]
           refine rT 46 (some 113) ?_
           try simp only [Act.put, q0, q1, q2]
           refine rT 47 (some 66) ?_
           try simp only [Act.put, q0, q1, q2]
           refine wpAnyH_done (by kernel_rfl) ?_ _
           have HZ := Lib.hid hHeld.2.2.2.2.2.2.out
           clear hHeld
           go_wp2_with fail
           go_meet
           exact ⟨rfl, HZ⟩
         ·have k2f : ((t.kind : Int) == 2) = false := by rw [show ((2 : Int)) = ((2 : Nat) : Int) from rfl, kind_beq, beq_eq_false_iff_ne.2 hk2]
          clear hk2
          refine wp_region_held_drew (S := fun W => Hid (Below w62.heap.size w62 W)) (by kernel_rfl) ?_ (fun hHeld => ?_)
          ·exact Lib.hid (Below.refl w62.heap.size w62).drew
          refine rT 0 (some 67) ?_
          try simp only [Act.put, q0, q1, q2]
          refine rR1 1 (some 68) (fun K hK => ?_)
          go_simp
          with_reducible refine (next_any (C62.out.ps.below hHeld.out) C62.out.hL HT.out).mono ?_
          rintro e w' ⟨rfl, hb⟩
          unfold tkV
          go_wp2_with fail
          refine hK.out _ _ ?_ (fun hHeld => ?_)
          ·exact Lib.hid (below_next hHeld.out hb)
          clear hK K
          try simp only [Act.put, q0, q1, q2]
          clear hb
          refine rT 2 (some 69) ?_
          try simp only [Act.put, q0, q1, q2]
          refine rT 3 (some 70) ?_
          try simp only [Act.put, q0, q1, q2]
          refine rT 4 (some 71) ?_
          try simp only [Act.put, q0, q1, q2]
          refine rK 5 (some 72) ?_
          try simp only [Act.put, q0, q1, q2]
          refine rK 6 (some 73) ?_
          try simp only [Act.put, q0, q1, q2]
          refine rK 7 (some 74) ?_
          try simp only [Act.put, q0, q1, q2]
          refine rK 8 (some 75) ?_
          try simp only [Act.put, q0, q1, q2]
          refine rK 9 (some 76) ?_
          try simp only [Act.put, q0, q1, q2]
          refine rK 10 (some 77) ?_
          try simp only [Act.put, q0, q1, q2]
          refine rK 11 (some 78) ?_
          try simp only [Act.put, q0, q1, q2]
          refine rK 12 (some 79) ?_
          try simp only [Act.put, q0, q1, q2]
          refine rK 13 (some 80) ?_
          try simp only [Act.put, q0, q1, q2]
          refine rK 14 (some 81) ?_
          try simp only [Act.put, q0, q1, q2]
          refine rK 15 (some 82) ?_
          try simp only [Act.put, q0, q1, q2]
          refine rT 16 (some 83) ?_
          try simp only [Act.put, q0, q1, q2]
          refine rT 17 (some 84) ?_
          try simp only [Act.put, q0, q1, q2]
          refine rK 18 (some 85) ?_
          try simp only [Act.put, q0, q1, q2]
          refine rK 19 (some 86) ?_
          try simp only [Act.put, q0, q1, q2]
          refine rK 20 (some 87) ?_
          try simp only [Act.put, q0, q1, q2]
          refine rK 21 (some 88) ?_
          try simp only [Act.put, q0, q1, q2]
          refine rK 22 (some 89) ?_
          try simp only [Act.put, q0, q1, q2]
          refine rK 23 (some 90) ?_
          try simp only [Act.put, q0, q1, q2]
          refine rK 24 (some 91) ?_
          try simp only [Act.put, q0, q1, q2]
          refine rK 25 (some 92) ?_
          try simp only [Act.put, q0, q1, q2]
          refine rK 26 (some 93) ?_
          try simp only [Act.put, q0, q1, q2]
          refine rK 27 (some 94) ?_
          try simp only [Act.put, q0, q1, q2]
          refine rK 28 (some 95) ?_
          try simp only [Act.put, q0, q1, q2]
          refine rK 29 (some 96) ?_
          try simp only [Act.put, q0, q1, q2]
          refine rK 30 (some 97) ?_
          try simp only [Act.put, q0, q1, q2]
          refine rT 31 (some 98) ?_
          try simp only [Act.put, q0, q1, q2]
          refine rT 32 (some 99) ?_
          try simp only [Act.put, q0, q1, q2]
          refine rK 33 (some 100) ?_
          try simp only [Act.put, q0, q1, q2]
          refine rK 34 (some 101) ?_
          try simp only [Act.put, q0, q1, q2]
          refine rK 35 (some 102) ?_
          try simp only [Act.put, q0, q1, q2]
          refine rK 36 (some 103) ?_
          try simp only [Act.put, q0, q1, q2]
          refine rK 37 (some 104) ?_
          try simp only [Act.put, q0, q1, q2]
          refine rK 38 (some 105) ?_
          try simp only [Act.put, q0, q1, q2]
          refine rK 39 (some 106) ?_
          try simp only [Act.put, q0, q1, q2]
          refine rK 40 (some 107) ?_
          try simp only [Act.put, q0, q1, q2]
          refine rK 41 (some 108) ?_
          try simp only [Act.put, q0, q1, q2]
          refine rK 42 (some 109) ?_
          try simp only [Act.put, q0, q1, q2]
          refine rK 43 (some 110) ?_
          try simp only [Act.put, q0, q1, q2]
          refine rK 44 (some 111) ?_
          try simp only [Act.put, q0, q1, q2]
          refine rK 45 (some 112) ?_
          try simp only [Act.put, q0, q1, q2]
          refine rT 46 (some 113) ?_
          try simp only [Act.put, q0, q1, q2]
          refine rT 47 (some 66) ?_
          try simp only [Act.put, q0, q1, q2]
          refine wpAnyH_done (by kernel_rfl) ?_ _
          have HZ := Lib.hid hHeld.out
          clear hHeld
          go_wp2_with fail
          go_meet
          exact ⟨rfl, HZ⟩
        case rest =>
         obtain ⟨rfl, HZ⟩ := hcut
         have C66 := Lib.hid ((C62.out.keep HZ.out).at0 (G' := fun f ts => (Pa.pO (f + 1) ts).bind fun a r => (Pa.expect [46] r).bind fun _ r => (Pa.word 2 r).bind fun n r => (Pa.expect [61] r).bind fun _ r => (Pa.pE f 0 r).bind fun b r => .ok (.mk 2 n [a, b] [] []) r) (fun f => if_neg HC.out))
         clear HZ C62
         go_wp2_with fail
         refine (C66.out.callE ((poperand_any C66.out.hL _ _ C66.out.ps).mono fun _ _ h => h.succ)).mono ?_
         rintro e w67 (⟨x1, p1, N1, c1, k1, rfl, hlt1, hn1, C67⟩ | ⟨t, rfl, HB⟩)
         ·clear C66
          obtain ⟨X, w68, HX, HW, hx68, C68⟩ := C67.out.boxE #[.int .i64 x1.kind, .int .i64 x1.op, .int .i64 x1.int, .string x1.name, .bool x1.at_, .slice p1 N1 c1] 33
          go_upto_region 24 with fail
          rw [← HX.out, ← HW.out]
          clear HX HW C67
          go_wp2_with fail
          refine (C68.out.exp ⟨#[46]⟩ (by decide)).mono ?_
          rintro e w70 (⟨rfl, hlt69, C70⟩ | ⟨t, rfl, HB⟩)
          ·clear C68
           go_wp2_with fail
           refine (C70.out.name).mono ?_
           rintro e w71 (⟨s2, rfl, hlt2, hsz2, C71⟩ | ⟨t, rfl, HB⟩)
           ·clear C70
            go_wp2_with fail
            refine (C71.out.exp ⟨#[61]⟩ (by decide)).mono ?_
            rintro e w73 (⟨rfl, hlt72, C73⟩ | ⟨t, rfl, HB⟩)
            ·clear C71
             go_upto_region 27 with fail
             obtain ⟨w74, HW, C74⟩ := C73.out.drewE
             refine wp_region_held_drew (S := fun _ => True) (by kernel_rfl) trivial (fun _ => ?_)
             rw [← HW.out]
             clear HW C73
             refine rT 0 (some 126) ?_
             try simp only [Act.put, q0, q1, q2]
             refine rT 2 (some 128) ?_
             try simp only [Act.put, q0, q1, q2]
             refine rR2 1 (some 127) 3 (some 129) (fun K hK => ?_) (fun K hK => ?_)
             ·obtain ⟨l0, c00, f00, c01, f01, c02, f02, c03, f03, c04, f04, c05, f05⟩ := cells6 (C74.out.m.b 0 rfl)
              go_simp
              refine hK.out _ _ trivial (fun _ => ?_)
              clear hK K
              try simp only [Act.put, q0, q1, q2]
              clear l0 c00 f00 c01 f01 c02 f02 c03 f03 c04 f04 c05 f05
              refine rR1 3 (some 129) (fun K hK => ?_)
              go_simp
              refine (C74.out.callE (pexpr_any C74.out.hL _ _ C74.out.ps)).mono ?_
              rintro e w75 (⟨x3, p3, N3, c3, k3, rfl, hlt3, hn3, C75⟩ | ⟨t, rfl, HB⟩)
              ·clear C74
               go_wp2_with fail
               refine hK.out _ _ trivial (fun _ => ?_)
               clear hK K
               try simp only [Act.put, q0, q1, q2]
               refine rR1 4 (some 130) (fun K hK => ?_)
               obtain ⟨X76, w76, HX, HW, hx76, C76⟩ := C75.out.boxE #[.int .i64 x1.kind, .int .i64 x1.op, .int .i64 x1.int, .string x1.name, .bool x1.at_, .slice p1 N1 c1, .int .i64 x3.kind, .int .i64 x3.op, .int .i64 x3.int, .string x3.name, .bool x3.at_, .slice p3 N3 c3] 33
               go_simp
               refine hK.out _ _ trivial (fun _ => ?_)
               clear hK K
               try simp only [Act.put, q0, q1, q2]
               rw [← HX.out, ← HW.out]
               clear HX HW C75
               refine rT 5 (some 131) ?_
               try simp only [Act.put, q0, q1, q2]
               refine rR1 6 none (fun K hK => ?_)
               obtain ⟨l2, c20, f20, c21, f21, c22, f22, c23, f23, c24, f24⟩ := cells5 (C76.out.m.b 2 rfl)
               go_simp
               refine hK.out _ _ trivial (fun _ => ?_)
               clear hK K
               try simp only [Act.put, q0, q1, q2]
               refine wpAnyH_done (by kernel_rfl) ?_ _
               clear l2 c20 f20 c21 f21 c22 f22 c23 f23 c24 f24
               go_wp2_with fail
               exact C76.out.retS (x := .mk 2 s2 [x1, x3] [] []) 2 rfl (by omega) Tryz.results177 rfl rfl (fun U b o => ⟨bd_stmt (k := 2) (by decide) hsz2, slE_blk2 (b 0 (by decide) rfl) (o 1 rfl) (o 0 rfl), .nil none 0, .nil none 0⟩)
              ·go_wp2_with fail
               exact ⟨rfl, HB.out.pq⟩
             ·go_simp
              refine (C74.out.callE (pexpr_any C74.out.hL _ _ C74.out.ps)).mono ?_
              rintro e w77 (⟨x3, p3, N3, c3, k3, rfl, hlt3, hn3, C77⟩ | ⟨t, rfl, HB⟩)
              ·clear C74
               go_wp2_with fail
               refine hK.out _ _ trivial (fun _ => ?_)
               clear hK K
               try simp only [Act.put, q0, q1, q2]
               refine rR1 1 (some 127) (fun K hK => ?_)
               obtain ⟨l0, c00, f00, c01, f01, c02, f02, c03, f03, c04, f04, c05, f05⟩ := cells6 (C77.out.m.b 0 rfl)
               go_simp
               refine hK.out _ _ trivial (fun _ => ?_)
               clear hK K
               try simp only [Act.put, q0, q1, q2]
               clear l0 c00 f00 c01 f01 c02 f02 c03 f03 c04 f04 c05 f05
               refine rR1 4 (some 130) (fun K hK => ?_)
               obtain ⟨X78, w78, HX, HW, hx78, C78⟩ := C77.out.boxE #[.int .i64 x1.kind, .int .i64 x1.op, .int .i64 x1.int, .string x1.name, .bool x1.at_, .slice p1 N1 c1, .int .i64 x3.kind, .int .i64 x3.op, .int .i64 x3.int, .string x3.name, .bool x3.at_, .slice p3 N3 c3] 33
               go_simp
               refine hK.out _ _ trivial (fun _ => ?_)
               clear hK K
               try simp only [Act.put, q0, q1, q2]
               rw [← HX.out, ← HW.out]
               clear HX HW C77
               refine rT 5 (some 131) ?_
               try simp only [Act.put, q0, q1, q2]
               refine rR1 6 none (fun K hK => ?_)
               obtain ⟨l2, c20, f20, c21, f21, c22, f22, c23, f23, c24, f24⟩ := cells5 (C78.out.m.b 2 rfl)
               go_simp
               refine hK.out _ _ trivial (fun _ => ?_)
               clear hK K
               try simp only [Act.put, q0, q1, q2]
               refine wpAnyH_done (by kernel_rfl) ?_ _
               clear l2 c20 f20 c21 f21 c22 f22 c23 f23 c24 f24
               go_wp2_with fail
               exact C78.out.retS (x := .mk 2 s2 [x1, x3] [] []) 2 rfl (by omega) Tryz.results177 rfl rfl (fun U b o => ⟨bd_stmt (k := 2) (by decide) hsz2, slE_blk2 (b 0 (by decide) rfl) (o 1 rfl) (o 0 rfl), .nil none 0, .nil none 0⟩)
              ·go_wp2_with fail
               exact ⟨rfl, HB.out.pq⟩
            ·go_wp2_with fail
             exact ⟨rfl, HB.out.pq⟩
           ·go_wp2_with fail
            exact ⟨rfl, HB.out.pq⟩
          ·go_wp2_with fail
           exact ⟨rfl, HB.out.pq⟩
         ·go_wp2_with fail
          exact ⟨rfl, HB.out.pq⟩
end Go.Proofs.YtdckddkalgnlpaaGreatDoor
