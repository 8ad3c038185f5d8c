/-
  The parser's operand, walked.
-/
import Derived.Test.YtdckddkalgnlpaaGreatDoorA17
namespace Go.Proofs.YtdckddkalgnlpaaGreatDoor
open Go.RowKit Go.Maps Pw
def LC (L : List Lex.Tok) (n tbk tc P m : Nat) : Prop := ∀ k w, PS L n tbk tc P k w → n - k ≤ m → Calls Tryz.prog 217 #[.pointer (some ⟨P, 0, none⟩), .func (.func 33) #[.pointer (some ⟨P, 0, none⟩)] #[]] w (PR L n tbk tc P k (fun f ts => Pa.pA f ts) (rdL w.heap.size) w)
theorem pO_at {L : List Lex.Tok} {n k : Nat} {t : Lex.Tok} (hlt : k < n) (ht : L[k]? = some t) (f : Nat) : Pa.pO (f + 1) (Pa.rest L n k) = if t.kind = 1 then .ok (Pa.num t.val) (Pa.rest L n (k + 1)) else if t.kind = 2 then .ok (Pa.var ⟨t.text.toArray⟩) (Pa.rest L n (k + 1))
 else if Pa.is [110, 105, 108] (Pa.rest L n k) then .ok (Pa.leaf 1) (Pa.rest L n (k + 1))
 else if Pa.is [116, 104, 105, 115] (Pa.rest L n k) then .ok (Pa.leaf 2) (Pa.rest L n (k + 1))
 else if Pa.is [40] (Pa.rest L n k) then (Pa.pE f 0 (Pa.rest L n (k + 1))).bind fun a r => (Pa.expect [41] r).bind fun _ r => .ok a r
 else if Pa.is [110, 101, 119] (Pa.rest L n k) then
  (Pa.word 3 (Pa.rest L n (k + 1))).bind fun n r => (Pa.pA f r).bind fun l r =>
   if Pa.is [97, 116] r then (Pa.pE f 6 r.tail).bind fun b r => .ok (Pa.new n true (l ++ [b])) r else .ok (Pa.new n false l) r
 else .bad (Pa.rest L n k) := by
 rw [Pa.rest_cons hlt ht, Pa.pO_s]
 rfl
theorem pO_oth {L : List Lex.Tok} {n k : Nat} {t : Lex.Tok} (hL : Pa.TkL L n) (hk : k ≤ n) (ht : L[k]? = some t) (h1 : t.kind ≠ 1) (h2 : t.kind ≠ 2) (f : Nat) : Pa.pO (f + 1) (Pa.rest L n k) =
 Pa.opt [110, 105, 108] (fun r => .ok (Pa.leaf 1) r) (Pa.opt [116, 104, 105, 115] (fun r => .ok (Pa.leaf 2) r) (Pa.opt [40] (fun r => (Pa.pE f 0 r).bind fun a r => (Pa.expect [41] r).bind fun _ r => .ok a r)
  fun r => (Pa.expect [110, 101, 119] r).bind fun _ r => (Pa.word 3 r).bind fun n r => (Pa.pA f r).bind fun l r => Pa.opt [97, 116] (fun r => (Pa.pE f 6 r).bind fun b r => .ok (Pa.new n true (l ++ [b])) r) (fun r => .ok (Pa.new n false l) r) r)) (Pa.rest L n k) := by
 rcases Nat.lt_or_ge k n with hlt | hge
 ·rw [pO_at hlt ht, if_neg h1, if_neg h2]
  unfold Pa.opt
  rw [Pa.rest_tail hL hlt]
  split
  ·rfl
  split
  ·rfl
  split
  ·rfl
  show _ = (Pa.expect [110, 101, 119] (Pa.rest L n k)).bind _
  rw [Pa.expect_at hL hk]
  split <;> rfl
 ·obtain rfl : k = n := by omega
  rw [Pa.rest_end, Pa.pO]
  rfl
set_option maxRecDepth 100000 in
set_option maxHeartbeats 8000000 in
theorem operand_num {L : List Lex.Tok} {n tbk tc P : Nat} (hL : Pa.TkL L n) {k : Nat} (w : World) (hp : PS L n tbk tc P k w) {t : Lex.Tok} (ht : L[k]? = some t) (hk1 : t.kind = 1) :
 Calls Tryz.prog 198 #[.pointer (some ⟨P, 0, none⟩)] w (PQ L n tbk tc P k (fun f ts => Pa.pO f ts) rdE w) := by
 have HT := Lib.hid ht
 have k1 := kindI 1 hk1
 have hkn := kind_lt hL hp.le ht (by omega)
 have HV := Lib.hid (hL.pos t (List.mem_of_getElem? ht)).2.1
 have HK := Lib.hid hk1
 obtain ⟨w17, HW, C17⟩ := (Cx.start hL hp (fun f ts => Pa.pO f ts)).boxR #[.int .i64 0, .int .i64 0, .int .i64 0, .string ⟨#[]⟩, .bool false, .slice none 0 0] 33
 clear hL hp ht hk1
 go_enter Tryz.func198, Tryz.ntmps198
 go_upto_region 1 with fail
 rw [← HW.out]
 clear HW
 go_wp2_with fail
 refine (C17.out.next HT.out).mono ?_
 rintro e w18 ⟨rfl, C18⟩
 clear C17
 obtain ⟨T, w19, HX, HW, hx19, C19⟩ := C18.out.boxE #[.int .i64 t.kind, .string ⟨t.text.toArray⟩, .int .i64 t.val, .int .i64 t.pos] 59
 go_upto_region 2 with fail
 rw [← HX.out, ← HW.out]
 clear HX HW C18
 have p1 := cell_of_blkP C19.out.ps.blk (j := 1) (u := .int .i64 k) rfl
 have q1 := blk_free C19.out.ps.blk 1
 have hfew := C19.out.hL.few
 have hplt := C19.out.m.pw
 obtain ⟨l0, c00, f00, c01, f01, c02, f02, c03, f03⟩ := cells4 (C19.out.m.b 0 rfl)
 obtain ⟨l1, c10, f10, c11, f11, c12, f12, c13, f13, c14, f14, c15, f15⟩ := cells6 (C19.out.m.b 1 rfl)
 go_wp2_with fail
 have CN := Lib.hid (C19.out.inc hkn (G' := fun _ ts => .ok (Pa.num t.val) ts) (fun x hx => .step (fun f => (pO_at hkn HT.out f).trans (if_pos HK.out)) hx))
 exact CN.out.retE (x := Pa.num t.val) 1 rfl (by omega) Tryz.results198 rfl rfl (fun U b o => ⟨bd_num HV.out, .nil none 0⟩)
set_option maxRecDepth 100000 in
set_option maxHeartbeats 8000000 in
theorem operand_name {L : List Lex.Tok} {n tbk tc P : Nat} (hL : Pa.TkL L n) {k : Nat} (w : World) (hp : PS L n tbk tc P k w) {t : Lex.Tok} (ht : L[k]? = some t) (hk2 : t.kind = 2) :
 Calls Tryz.prog 198 #[.pointer (some ⟨P, 0, none⟩)] w (PQ L n tbk tc P k (fun f ts => Pa.pO f ts) rdE w) := by
 have HT := Lib.hid ht
 have k1 := kindN 1 (show t.kind ≠ 1 by omega)
 have k2 := kindI 2 hk2
 have hkn := kind_lt hL hp.le ht (by omega)
 have HK := Lib.hid hk2
 obtain ⟨w20, HW, C20⟩ := ((Cx.start hL hp (fun f ts => Pa.pO f ts)).at_ (G' := fun f ts => (Pa.word 2 ts).bind fun a r => .ok (Pa.var a) r) (fun f => by rw [pO_at hkn ht, if_neg (by omega), if_pos hk2, word_at hkn ht hk2]; rfl)).boxR #[.int .i64 0, .int .i64 0, .int .i64 0, .string ⟨#[]⟩, .bool false, .slice none 0 0] 33
 clear hL hp ht hk2
 go_enter Tryz.func198, Tryz.ntmps198
 go_upto_region 1 with fail
 rw [← HW.out]
 clear HW
 go_wp2_with fail
 refine (C20.out.next HT.out).mono ?_
 rintro e w21 ⟨rfl, C21⟩
 clear C20
 obtain ⟨T, w22, HX, HW, hx22, C22⟩ := C21.out.boxE #[.int .i64 t.kind, .string ⟨t.text.toArray⟩, .int .i64 t.val, .int .i64 t.pos] 59
 go_upto_region 2 with fail
 rw [← HX.out, ← HW.out]
 clear HX HW C21
 obtain ⟨l0, c00, f00, c01, f01, c02, f02, c03, f03⟩ := cells4 (C22.out.m.b 0 rfl)
 go_wp2_with fail
 clear l0 c00 f00 c01 f01 c02 f02 c03 f03
 refine (C22.out.name).mono ?_
 rintro e w23 (⟨s1, rfl, hlt1, hsz1, C23⟩ | ⟨t, rfl, HB⟩)
 ·clear C22
  obtain ⟨l1, c10, f10, c11, f11, c12, f12, c13, f13, c14, f14, c15, f15⟩ := cells6 (C23.out.m.b 1 rfl)
  go_wp2_with fail
  exact C23.out.retE (x := Pa.var s1) 1 rfl (by omega) Tryz.results198 rfl rfl (fun U b o => ⟨bd_var hsz1, .nil none 0⟩)
 ·go_wp2_with fail
  exact ⟨rfl, HB.out.pq⟩
set_option maxRecDepth 100000 in
set_option maxHeartbeats 8000000 in
theorem operand_oth {L : List Lex.Tok} {n tbk tc P m : Nat} (hL : Pa.TkL L n) {k : Nat} (w : World) (hp : PS L n tbk tc P k w) {t : Lex.Tok} (ht : L[k]? = some t) (hk1 : t.kind ≠ 1) (hk2 : t.kind ≠ 2) (hk : n - k ≤ m) (hE : EL L n tbk tc P 33 0 m) (hA : ∀ m', m' < m → LC L n tbk tc P m') (hU : EL L n tbk tc P 218 6 m) :
 Calls Tryz.prog 198 #[.pointer (some ⟨P, 0, none⟩)] w (PQ L n tbk tc P k (fun f ts => Pa.pO f ts) rdE w) := by
 have HT := Lib.hid ht
 have k1 := kindN 1 hk1
 have k2 := kindN 2 hk2
 have HE := Lib.hid hE
 have hA := Lib.hid hA
 have HU := Lib.hid hU
 obtain ⟨w24, HW, C24⟩ := ((Cx.start hL hp (fun f ts => Pa.pO f ts)).at_ (pO_oth hL hp.le ht hk1 hk2)).boxR #[.int .i64 0, .int .i64 0, .int .i64 0, .string ⟨#[]⟩, .bool false, .slice none 0 0] 33
 clear hL hp ht hk1 hk2 hE hU
 go_enter Tryz.func198, Tryz.ntmps198
 go_upto_region 1 with fail
 rw [← HW.out]
 clear HW
 go_wp2_with fail
 refine (C24.out.next HT.out).mono ?_
 rintro e w25 ⟨rfl, C25⟩
 clear C24
 obtain ⟨T, w26, HX, HW, hx26, C26⟩ := C25.out.boxE #[.int .i64 t.kind, .string ⟨t.text.toArray⟩, .int .i64 t.val, .int .i64 t.pos] 59
 go_upto_region 2 with fail
 rw [← HX.out, ← HW.out]
 clear HX HW C25
 obtain ⟨l0, c00, f00, c01, f01, c02, f02, c03, f03⟩ := cells4 (C26.out.m.b 0 rfl)
 go_wp2_with fail
 clear l0 c00 f00 c01 f01 c02 f02 c03 f03
 refine (C26.out.take ⟨#[110, 105, 108]⟩ (by decide)).mono ?_
 rintro e w27 (⟨rfl, hlt28, C27⟩ | ⟨rfl, C27⟩)
 ·clear C26
  obtain ⟨l1, c10, f10, c11, f11, c12, f12, c13, f13, c14, f14, c15, f15⟩ := cells6 (C27.out.m.b 1 rfl)
  go_wp2_with fail
  exact C27.out.retE (x := Pa.leaf 1) 1 rfl (by omega) Tryz.results198 rfl rfl (fun U b o => ⟨bd_leaf (by decide) (by decide), .nil none 0⟩)
 ·clear C26
  go_wp2_with fail
  refine (C27.out.take ⟨#[116, 104, 105, 115]⟩ (by decide)).mono ?_
  rintro e w29 (⟨rfl, hlt30, C29⟩ | ⟨rfl, C29⟩)
  ·clear C27
   obtain ⟨l1, c10, f10, c11, f11, c12, f12, c13, f13, c14, f14, c15, f15⟩ := cells6 (C29.out.m.b 1 rfl)
   go_wp2_with fail
   exact C29.out.retE (x := Pa.leaf 2) 1 rfl (by omega) Tryz.results198 rfl rfl (fun U b o => ⟨bd_leaf (by decide) (by decide), .nil none 0⟩)
  ·clear C27
   go_wp2_with fail
   refine (C29.out.take ⟨#[40]⟩ (by decide)).mono ?_
   rintro e w31 (⟨rfl, hlt32, C31⟩ | ⟨rfl, C31⟩)
   ·clear C29
    go_wp2_with fail
    refine (C31.out.callE (HE.out _ _ C31.out.ps (by omega))).mono ?_
    rintro e w33 (⟨x1, p1, N1, c1, k1, rfl, hlt1, hn1, C33⟩ | ⟨t, rfl, HB⟩)
    ·clear C31
     obtain ⟨X, w34, HX, HW, hx34, C34⟩ := C33.out.boxE #[.int .i64 x1.kind, .int .i64 x1.op, .int .i64 x1.int, .string x1.name, .bool x1.at_, .slice p1 N1 c1] 33
     go_upto_region 13 with fail
     rw [← HX.out, ← HW.out]
     clear HX HW C33
     go_wp2_with fail
     refine (C34.out.exp ⟨#[41]⟩ (by decide)).mono ?_
     rintro e w36 (⟨rfl, hlt35, C36⟩ | ⟨t, rfl, HB⟩)
     ·clear C34
      obtain ⟨l0, c00, f00, c01, f01, c02, f02, c03, f03, c04, f04, c05, f05⟩ := cells6 (C36.out.m.b 0 rfl)
      obtain ⟨l2, c20, f20, c21, f21, c22, f22, c23, f23, c24, f24, c25, f25⟩ := cells6 (C36.out.m.b 2 rfl)
      go_wp2_with fail
      exact C36.out.retE (x := x1) 2 rfl (by omega) Tryz.results198 rfl rfl (fun U b o => o 0 rfl)
     ·go_wp2_with fail
      exact ⟨rfl, HB.out.pq⟩
    ·go_wp2_with fail
     exact ⟨rfl, HB.out.pq⟩
   ·clear C29
    go_wp2_with fail
    refine (C31.out.exp ⟨#[110, 101, 119]⟩ (by decide)).mono ?_
    rintro e w38 (⟨rfl, hlt37, C38⟩ | ⟨t, rfl, HB⟩)
    ·clear C31
     go_wp2_with fail
     refine (C38.out.wrd).mono ?_
     rintro e w39 (⟨s1, rfl, hlt1, hsz1, C39⟩ | ⟨t, rfl, HB⟩)
     ·clear C38
      obtain ⟨X, w40, HX, HW, hx40, C40⟩ := C39.out.boxE #[.int .i64 5, .int .i64 0, .int .i64 0, .string s1, .bool false, .slice none 0 0] 33
      go_wp2_with fail
      rw [← HX.out, ← HW.out]
      clear HX HW C39
      refine (C40.out.callL (hA.out (n - (k + 1 + 1)) (by omega) _ _ C40.out.ps (Nat.le_refl _))).mono ?_
      rintro e w41 (⟨tr2, p2, N2, c2, k2, rfl, HTL2, hlt2, hn2, C41⟩ | ⟨t, rfl, HB⟩)
      ·clear C40
       obtain ⟨l0, c00, f00, c01, f01, c02, f02, c03, f03, c04, f04, c05, f05⟩ := cells6 (C41.out.m.b 0 rfl)
       obtain ⟨w42, HW⟩ : ∃ q, Hid (q = (w41.setCell ⟨X, 5, none⟩ (.slice p2 N2 c2))) := ⟨_, Lib.hid rfl⟩
       have C42 := Lib.hid (C41.out.mm (W' := w42) (C41.out.m.set 0 rfl (by rw [HW.out]; exact gr_set w41 X 5 (.slice p2 N2 c2)) (by rw [HW.out]; exact (heap_set (j := 5) (.slice p2 N2 c2) (C41.out.m.b 0 rfl)))))
       go_upto_region 18 with fail
       rw [← HW.out]
       clear HW C41 l0 c00 f00 c01 f01 c02 f02 c03 f03 c04 f04 c05 f05
       go_wp2_with fail
       refine (C42.out.take ⟨#[97, 116]⟩ (by decide)).mono ?_
       rintro e w43 (⟨rfl, hlt44, C43⟩ | ⟨rfl, C43⟩)
       ·clear C42
        obtain ⟨l0, c00, f00, c01, f01, c02, f02, c03, f03, c04, f04, c05, f05⟩ := cells6 (C43.out.m.b 0 rfl)
        obtain ⟨w45, HW⟩ : ∃ q, Hid (q = (w43.setCell ⟨X, 4, none⟩ (.bool true))) := ⟨_, Lib.hid rfl⟩
        have C45 := Lib.hid (C43.out.mm (W' := w45) (C43.out.m.set 0 rfl (by rw [HW.out]; exact gr_set w43 X 4 (.bool true)) (by rw [HW.out]; exact (heap_set (j := 4) (.bool true) (C43.out.m.b 0 rfl)))))
        go_upto_region 20 with fail
        rw [← HW.out]
        clear HW C43 l0 c00 f00 c01 f01 c02 f02 c03 f03 c04 f04 c05 f05
        obtain ⟨w46, HW, C46⟩ := C45.out.drewE
        refine wp_region_held_drew (S := fun _ => True) (by kernel_rfl) trivial (fun _ => ?_)
        rw [← HW.out]
        clear HW C45
        refine rT 0 (some 60) ?_
        try simp only [Act.put, q0, q1, q2]
        refine rT 2 (some 62) ?_
        try simp only [Act.put, q0, q1, q2]
        have HLEN := HTL2.out
        refine rR2 1 (some 61) 3 (some 63) (fun K hK => ?_) (fun K hK => ?_)
        ·obtain ⟨l0, c00, f00, c01, f01, c02, f02, c03, f03, c04, f04, c05, f05⟩ := cells6 (C46.out.m.b 0 rfl)
         go_simp
         refine hK.out _ _ trivial (fun _ => ?_)
         clear hK K
         try simp only [Act.put, q0, q1, q2]
         clear l0 c00 f00 c01 f01 c02 f02 c03 f03 c04 f04 c05 f05
         refine rR1 3 (some 63) (fun K hK => ?_)
         go_simp
         refine (C46.out.callE (HU.out _ _ C46.out.ps (by omega))).mono ?_
         rintro e w47 (⟨x3, p3, N3, c3, k3, rfl, hlt3, hn3, C47⟩ | ⟨t, rfl, HB⟩)
         ·clear C46
          go_wp2_with fail
          refine hK.out _ _ trivial (fun _ => ?_)
          clear hK K
          try simp only [Act.put, q0, q1, q2]
          refine rR1 4 (some 64) (fun K hK => ?_)
          obtain ⟨X48, w48, HX, HW, hx48, C48⟩ := C47.out.boxE #[.int .i64 x3.kind, .int .i64 x3.op, .int .i64 x3.int, .string x3.name, .bool x3.at_, .slice p3 N3 c3] 33
          go_simp
          refine hK.out _ _ trivial (fun _ => ?_)
          clear hK K
          try simp only [Act.put, q0, q1, q2]
          rw [← HX.out, ← HW.out]
          clear HX HW C47
          refine rR1 5 (some 65) (fun K hK => ?_)
          refine C48.out.pushS tkE rfl HLEN (by rfl) _ _ (by rfl) (by rfl) (by rfl) ?_
          intro p9 N9 c9 w49 HN9 C49
          clear C48
          refine hK.out _ _ trivial (fun _ => ?_)
          clear hK K
          try simp only [Act.put, q0, q1, q2]
          refine rT 6 (some 66) ?_
          try simp only [Act.put, q0, q1, q2]
          refine rR1 7 none (fun K hK => ?_)
          obtain ⟨l0, c00, f00, c01, f01, c02, f02, c03, f03, c04, f04, c05, f05⟩ := cells6 (C49.out.m.b 0 rfl)
          obtain ⟨w50, HW⟩ : ∃ q, Hid (q = (w49.setCell ⟨X, 5, none⟩ (.slice p9 N9 c9))) := ⟨_, Lib.hid rfl⟩
          have C50 := Lib.hid (C49.out.mm (W' := w50) (C49.out.m.set 0 rfl (by rw [HW.out]; exact gr_set w49 X 5 (.slice p9 N9 c9)) (by rw [HW.out]; exact (heap_set (j := 5) (.slice p9 N9 c9) (C49.out.m.b 0 rfl)))))
          go_simp
          refine hK.out _ _ trivial (fun _ => ?_)
          clear hK K
          try simp only [Act.put, q0, q1, q2]
          refine wpAnyH_done (by kernel_rfl) ?_ _
          rw [← HW.out]
          clear HW C49 l0 c00 f00 c01 f01 c02 f02 c03 f03 c04 f04 c05 f05
          obtain ⟨l0, c00, f00, c01, f01, c02, f02, c03, f03, c04, f04, c05, f05⟩ := cells6 (C50.out.m.b 0 rfl)
          obtain ⟨l2, c20, f20, c21, f21, c22, f22, c23, f23, c24, f24, c25, f25⟩ := cells6 (C50.out.m.b 2 rfl)
          go_wp2_with fail
          exact C50.out.retE (x := Pa.new s1 true (tr2.map Prod.fst ++ [x3])) 2 rfl (by omega) Tryz.results198 rfl rfl (fun U b o => ⟨bd_new hsz1 _ _, (List.map_append (f := (Prod.fst : ET → Tr.E)) (l₁ := tr2) (l₂ := [(x3, .slice p3 N3 c3)])) ▸ o 0 rfl⟩)
         ·go_wp2_with fail
          exact ⟨rfl, HB.out.pq⟩
        ·go_simp
         refine (C46.out.callE (HU.out _ _ C46.out.ps (by omega))).mono ?_
         rintro e w51 (⟨x3, p3, N3, c3, k3, rfl, hlt3, hn3, C51⟩ | ⟨t, rfl, HB⟩)
         ·clear C46
          go_wp2_with fail
          refine hK.out _ _ trivial (fun _ => ?_)
          clear hK K
          try simp only [Act.put, q0, q1, q2]
          refine rR2 1 (some 61) 4 (some 64) (fun K hK => ?_) (fun K hK => ?_)
          ·obtain ⟨l0, c00, f00, c01, f01, c02, f02, c03, f03, c04, f04, c05, f05⟩ := cells6 (C51.out.m.b 0 rfl)
           go_simp
           refine hK.out _ _ trivial (fun _ => ?_)
           clear hK K
           try simp only [Act.put, q0, q1, q2]
           clear l0 c00 f00 c01 f01 c02 f02 c03 f03 c04 f04 c05 f05
           refine rR1 4 (some 64) (fun K hK => ?_)
           obtain ⟨X52, w52, HX, HW, hx52, C52⟩ := C51.out.boxE #[.int .i64 x3.kind, .int .i64 x3.op, .int .i64 x3.int, .string x3.name, .bool x3.at_, .slice p3 N3 c3] 33
           go_simp
           refine hK.out _ _ trivial (fun _ => ?_)
           clear hK K
           try simp only [Act.put, q0, q1, q2]
           rw [← HX.out, ← HW.out]
           clear HX HW C51
           refine rR1 5 (some 65) (fun K hK => ?_)
           refine C52.out.pushS tkE rfl HLEN (by rfl) _ _ (by rfl) (by rfl) (by rfl) ?_
           intro p9 N9 c9 w53 HN9 C53
           clear C52
           refine hK.out _ _ trivial (fun _ => ?_)
           clear hK K
           try simp only [Act.put, q0, q1, q2]
           refine rT 6 (some 66) ?_
           try simp only [Act.put, q0, q1, q2]
           refine rR1 7 none (fun K hK => ?_)
           obtain ⟨l0, c00, f00, c01, f01, c02, f02, c03, f03, c04, f04, c05, f05⟩ := cells6 (C53.out.m.b 0 rfl)
           obtain ⟨w54, HW⟩ : ∃ q, Hid (q = (w53.setCell ⟨X, 5, none⟩ (.slice p9 N9 c9))) := ⟨_, Lib.hid rfl⟩
           have C54 := Lib.hid (C53.out.mm (W' := w54) (C53.out.m.set 0 rfl (by rw [HW.out]; exact gr_set w53 X 5 (.slice p9 N9 c9)) (by rw [HW.out]; exact (heap_set (j := 5) (.slice p9 N9 c9) (C53.out.m.b 0 rfl)))))
           go_simp
           refine hK.out _ _ trivial (fun _ => ?_)
           clear hK K
           try simp only [Act.put, q0, q1, q2]
           refine wpAnyH_done (by kernel_rfl) ?_ _
           rw [← HW.out]
           clear HW C53 l0 c00 f00 c01 f01 c02 f02 c03 f03 c04 f04 c05 f05
           obtain ⟨l0, c00, f00, c01, f01, c02, f02, c03, f03, c04, f04, c05, f05⟩ := cells6 (C54.out.m.b 0 rfl)
           obtain ⟨l2, c20, f20, c21, f21, c22, f22, c23, f23, c24, f24, c25, f25⟩ := cells6 (C54.out.m.b 2 rfl)
           go_wp2_with fail
           exact C54.out.retE (x := Pa.new s1 true (tr2.map Prod.fst ++ [x3])) 2 rfl (by omega) Tryz.results198 rfl rfl (fun U b o => ⟨bd_new hsz1 _ _, (List.map_append (f := (Prod.fst : ET → Tr.E)) (l₁ := tr2) (l₂ := [(x3, .slice p3 N3 c3)])) ▸ o 0 rfl⟩)
          ·obtain ⟨X55, w55, HX, HW, hx55, C55⟩ := C51.out.boxE #[.int .i64 x3.kind, .int .i64 x3.op, .int .i64 x3.int, .string x3.name, .bool x3.at_, .slice p3 N3 c3] 33
           go_simp
           refine hK.out _ _ trivial (fun _ => ?_)
           clear hK K
           try simp only [Act.put, q0, q1, q2]
           rw [← HX.out, ← HW.out]
           clear HX HW C51
           refine rR1 1 (some 61) (fun K hK => ?_)
           obtain ⟨l1, c10, f10, c11, f11, c12, f12, c13, f13, c14, f14, c15, f15⟩ := cells6 (C55.out.m.b 1 rfl)
           go_simp
           refine hK.out _ _ trivial (fun _ => ?_)
           clear hK K
           try simp only [Act.put, q0, q1, q2]
           clear l1 c10 f10 c11 f11 c12 f12 c13 f13 c14 f14 c15 f15
           refine rR1 5 (some 65) (fun K hK => ?_)
           refine C55.out.pushS tkE rfl HLEN (by rfl) _ _ (by rfl) (by rfl) (by rfl) ?_
           intro p9 N9 c9 w56 HN9 C56
           clear C55
           refine hK.out _ _ trivial (fun _ => ?_)
           clear hK K
           try simp only [Act.put, q0, q1, q2]
           refine rT 6 (some 66) ?_
           try simp only [Act.put, q0, q1, q2]
           refine rR1 7 none (fun K hK => ?_)
           obtain ⟨l0, c00, f00, c01, f01, c02, f02, c03, f03, c04, f04, c05, f05⟩ := cells6 (C56.out.m.b 0 rfl)
           obtain ⟨w57, HW⟩ : ∃ q, Hid (q = (w56.setCell ⟨X, 5, none⟩ (.slice p9 N9 c9))) := ⟨_, Lib.hid rfl⟩
           have C57 := Lib.hid (C56.out.mm (W' := w57) (C56.out.m.set 0 rfl (by rw [HW.out]; exact gr_set w56 X 5 (.slice p9 N9 c9)) (by rw [HW.out]; exact (heap_set (j := 5) (.slice p9 N9 c9) (C56.out.m.b 0 rfl)))))
           go_simp
           refine hK.out _ _ trivial (fun _ => ?_)
           clear hK K
           try simp only [Act.put, q0, q1, q2]
           refine wpAnyH_done (by kernel_rfl) ?_ _
           rw [← HW.out]
           clear HW C56 l0 c00 f00 c01 f01 c02 f02 c03 f03 c04 f04 c05 f05
           obtain ⟨l0, c00, f00, c01, f01, c02, f02, c03, f03, c04, f04, c05, f05⟩ := cells6 (C57.out.m.b 0 rfl)
           obtain ⟨l2, c20, f20, c21, f21, c22, f22, c23, f23, c24, f24, c25, f25⟩ := cells6 (C57.out.m.b 2 rfl)
           go_wp2_with fail
           exact C57.out.retE (x := Pa.new s1 true (tr2.map Prod.fst ++ [x3])) 2 rfl (by omega) Tryz.results198 rfl rfl (fun U b o => ⟨bd_new hsz1 _ _, (List.map_append (f := (Prod.fst : ET → Tr.E)) (l₁ := tr2) (l₂ := [(x3, .slice p3 N3 c3)])) ▸ o 0 rfl⟩)
         ·go_wp2_with fail
          exact ⟨rfl, HB.out.pq⟩
       ·clear C42
        obtain ⟨l0, c00, f00, c01, f01, c02, f02, c03, f03, c04, f04, c05, f05⟩ := cells6 (C43.out.m.b 0 rfl)
        obtain ⟨l2, c20, f20, c21, f21, c22, f22, c23, f23, c24, f24, c25, f25⟩ := cells6 (C43.out.m.b 2 rfl)
        go_wp2_with fail
        exact C43.out.retE (x := Pa.new s1 false (tr2.map Prod.fst)) 2 rfl (by omega) Tryz.results198 rfl rfl (fun U b o => ⟨bd_new hsz1 _ _, o 0 rfl⟩)
      ·go_wp2_with fail
       exact ⟨rfl, HB.out.pq⟩
     ·go_wp2_with fail
      exact ⟨rfl, HB.out.pq⟩
    ·go_wp2_with fail
     exact ⟨rfl, HB.out.pq⟩
theorem operand_of {L : List Lex.Tok} {n tbk tc P m : Nat} (hL : Pa.TkL L n) (hE : EL L n tbk tc P 33 0 m) (hA : ∀ m', m' < m → LC L n tbk tc P m') (hU : EL L n tbk tc P 218 6 m) : OC L n tbk tc P m := by
 intro k w hp hk
 obtain ⟨t, ht⟩ := hL.get hp.le
 by_cases h1 : t.kind = 1
 ·exact operand_num hL w hp ht h1
 ·by_cases h2 : t.kind = 2
  ·exact operand_name hL w hp ht h2
  ·exact operand_oth hL w hp ht h1 h2 hk hE hA hU
end Go.Proofs.YtdckddkalgnlpaaGreatDoor
