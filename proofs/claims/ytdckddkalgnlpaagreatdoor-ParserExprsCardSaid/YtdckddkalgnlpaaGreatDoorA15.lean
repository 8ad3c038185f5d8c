/-
  Several texts in one: PrOp, PrLeft.
-/
import Derived.Test.YtdckddkalgnlpaaGreatDoorA13
import Derived.Test.YtdckddkalgnlpaaGreatDoorA14
namespace Go.Proofs.YtdckddkalgnlpaaGreatDoor
open Go.RowKit Go.Maps Pw
def opL (ops : List Nat) : List Int := ops.map fun o : Nat => (o : Int)
theorem op_found {ops : List Nat} {o j : Nat} {ts : Pa.Toks} (hx : ops[j]? = some o) (hno : ∀ (i o : Nat), i < j → ops[i]? = some o → Pa.is (Sy.sym o) ts = false) (hi : Pa.is (Sy.sym o) ts = true) : Pa.opOf (opL ops) ts = some (o : Int) := by
 unfold Pa.opOf opL
 have hj := (List.getElem?_eq_some_iff.1 hx).1
 rw [List.find?_eq_some_iff_getElem]
 refine ⟨hi, j, by rw [List.length_map]; exact hj, ?_, fun i hi => ?_⟩
 ·rw [List.getElem_map, (List.getElem?_eq_some_iff.1 hx).2]
 ·rw [List.getElem_map, hno i _ hi (List.getElem?_eq_getElem (Nat.lt_trans hi hj))]
  rfl
theorem op_nothing {ops : List Nat} {ts : Pa.Toks} (hno : ∀ (i o : Nat), i < ops.length → ops[i]? = some o → Pa.is (Sy.sym o) ts = false) : Pa.opOf (opL ops) ts = none := by
 unfold Pa.opOf opL
 rw [List.find?_eq_none]
 intro x hx
 obtain ⟨o, hm, rfl⟩ := List.mem_map.1 hx
 obtain ⟨i, hi, rfl⟩ := List.getElem_of_mem hm
 rw [hno i _ hi (List.getElem?_eq_getElem hi)]
 decide
set_option maxRecDepth 100000 in
set_option maxHeartbeats 8000000 in
theorem op_any {L : List Lex.Tok} {n tbk tc P k : Nat} {b : Bool} {w : World} (hp : RS L n tbk tc P k b w) (hL : Pa.TkL L n) (ops : List Nat) (N X : Nat) (hN : ops.length = N) (hN9 : N ≤ 100) (ho : ∀ o ∈ ops, o ≤ 12) (hX : ∀ (j o : Nat), ops[j]? = some o → w.cell? ⟨X, j, none⟩ = some (.int .i64 o)) :
 Calls Tryz.prog 74 #[.pointer (some ⟨P, 0, none⟩), .slice (some ⟨X, 0, none⟩) N N] w fun e w' =>
  (∃ o : Nat, b = false ∧ o ≤ 12 ∧ Pa.opOf (opL ops) (Pa.rest L n k) = some (o : Int) ∧ Pa.is (Sy.sym o) (Pa.rest L n k) = true ∧ e = .returned (.int .i64 o) ∧ Below w.heap.size w w') ∨
  ((b = true ∨ Pa.opOf (opL ops) (Pa.rest L n k) = none) ∧ e = .returned (.int .i64 (-1)) ∧ Below w.heap.size w w') := by
 have HP := Lib.hid hp
 have HL := Lib.hid hL
 have HN := Lib.hid hN
 have HO := Lib.hid ho
 have HX := Lib.hid hX
 clear hp hL hN ho hX
 go_enter Tryz.func74, Tryz.ntmps74
 go_wp2_with fail
 go_loopg [5] N (fun gg s5 wr => ∃ j : Nat, s5 = .int .i64 j ∧ j ≤ N ∧ gg = N - j ∧ Hid (∀ (i o : Nat), i < j → ops[i]? = some o → (!b && Pa.is (Sy.sym o) (Pa.rest L n k)) = false) ∧ Hid (Below w.heap.size w wr))
 case atStart => exact ⟨0, rfl, Nat.zero_le _, rfl, Lib.hid fun i o h => absurd h (Nat.not_lt_zero _), Lib.hid (Below.refl _ _)⟩
 case round =>
  obtain ⟨j, rfl, hj, rfl, HNO, HB⟩ := hrel
  by_cases hlt : j < N
  ·obtain ⟨o, hx⟩ : ∃ x, ops[j]? = some x := ⟨_, List.getElem?_eq_getElem (by rw [HN.out]; exact hlt)⟩
   have hc := cell_keep' HB.out (HX.out j o hx)
   have hcl := cell_lt' hc
   have hb1 : (0 : Int) ≤ (j : Int) := by omega
   have hb2 : (j : Int) < (N : Int) := by omega
   have ho12 := HO.out o (List.mem_of_getElem? hx)
   have hne := symB_ne ho12
   have HOX := Lib.hid hx
   have KS := Lib.hid (refSymbol_any o ho12 wr)
   clear hx
   obtain ⟨r, hr⟩ : ∃ r, (!b && Pa.is (Sy.sym o) (Pa.rest L n k)) = r := ⟨_, rfl⟩
   have HR := Lib.hid hr
   have HNE := Lib.hid hne
   clear hr hne
   go_wp2_with fail
   refine KS.out.mono ?_
   rintro e w1 ⟨rfl, h1⟩
   have hc1 := cell_keep' h1 hc
   have HB1 := Lib.hid (below_next HB.out h1)
   clear h1 hc hcl KS
   have KT := Lib.hid (isR_any (HP.out.below HB1.out) HL.out (symB o) HNE.out)
   go_wp2_with fail
   refine KT.out.mono ?_
   rintro e w2 ⟨rfl, h2⟩
   have hc2 := cell_keep' h2 hc1
   have hcl2 := cell_lt' hc2
   have HB2 := Lib.hid (below_next HB1.out h2)
   clear h2 hc1 KT
   have hre : (!b && Pa.is (symB o).data.toList (Pa.rest L n k)) = r := HR.out
   rw [hre]
   clear hre
   cases r with
   | true =>
     go_wp2_with fail
     go_ret
     have h3 := HR.out
     rw [Bool.and_eq_true] at h3
     have hbf : b = false := by cases b <;> simp_all
     refine .inl ⟨o, hbf, ho12, op_found HOX.out (fun i o hi hx => ?_) h3.2, h3.2, rfl, HB2.out⟩
     have h4 := HNO.out i o hi hx
     rw [hbf] at h4
     exact h4
   | false =>
     go_wp2_with fail
     go_roundg (N - (j + 1))
     case measure => omega
     case rel =>
      refine ⟨j + 1, by go_num, by omega, rfl, Lib.hid fun i o' hi hx' => ?_, HB2⟩
      rcases Nat.lt_or_ge i j with h | h
      ·exact HNO.out i o' h hx'
      ·obtain rfl : i = j := by omega
       have e := HOX.out
       rw [hx'] at e
       cases e
       exact HR.out
  ·obtain rfl : j = N := by omega
   go_wp2_with fail
   go_ret
   refine .inr ⟨?_, rfl, HB.out⟩
   cases b with
   | true => exact .inl rfl
   | false => exact .inr (op_nothing fun i o hi hx => HNO.out i o (by rw [← HN.out]; exact hi) hx)
section
variable {β : Type} {L : List Lex.Tok} {n tbk tc P k0 k : Nat} {b : Bool} {w W W' : World} {p0 : Nat → Pa.R β} {bs : List Bk} {os : List Im} {G G' : Nat → Pa.Toks → Pa.R β}
theorem Cr.op (ops : List Nat) (N X : Nat) (hN : ops.length = N) (hN9 : N ≤ 100) (ho : ∀ o ∈ ops, o ≤ 12) {p : Int → Nat → Pa.Toks → Pa.R β} {q : Nat → Pa.Toks → Pa.R β} (hy : ∀ o : Int, Pa.opOf (opL ops) (Pa.rest L n k) = some o → ∀ x, Pa.Ev (fun f => p o f (Pa.rest L n k).tail) x → Pa.Ev (fun f => G f (Pa.rest L n k)) x) (hn : Pa.opOf (opL ops) (Pa.rest L n k) = none → ∀ x, Pa.Ev (fun f => q f (Pa.rest L n k)) x → Pa.Ev (fun f => G f (Pa.rest L n k)) x) (hX : ∀ (j o : Nat), ops[j]? = some o → W.cell? ⟨X, j, none⟩ = some (.int .i64 o)) (h : Cr L n tbk tc P k0 w p0 k b bs os G W) :
 Calls Tryz.prog 74 #[.pointer (some ⟨P, 0, none⟩), .slice (some ⟨X, 0, none⟩) N N] W fun e W' => (∃ o : Nat, e = .returned (.int .i64 o) ∧ o ≤ 12 ∧ k < n ∧ Hid (Cr L n tbk tc P k0 w p0 k false bs os (fun f ts => p o f ts.tail) W')) ∨ (e = .returned (.int .i64 (-1)) ∧ Hid (Cr L n tbk tc P k0 w p0 k b bs os q W')) := by
 refine (op_any h.ps h.hL ops N X hN hN9 ho hX).mono ?_
 rintro e W' (⟨o, rfl, ho12, hop, his, rfl, hb⟩ | ⟨hop, rfl, hb⟩)
 ·exact .inl ⟨o, rfl, ho12, Pa.is_lt h.le his, Lib.hid ((h.evs (hy _ hop)).keep hb)⟩
 ·refine .inr ⟨rfl, Lib.hid (Cr.keep ?_ hb)⟩
  cases b with
  | true => exact ⟨h.m, h.kk, h.tw, h.hL, h.ev⟩
  | false => exact h.evs (hn (hop.resolve_left (by decide)))
theorem Cr.opU (ops : List Nat) (N X : Nat) (hN : ops.length = N) (hN9 : N ≤ 100) (ho : ∀ o ∈ ops, o ≤ 12) {p : Int → Nat → Pa.Toks → Pa.R β} {q : Nat → Pa.Toks → Pa.R β} (hy : ∀ o : Int, Pa.opOf (opL ops) (Pa.rest L n k) = some o → ∀ x, Pa.Ev (fun f => p o f (Pa.rest L n k).tail) x → Pa.Ev (fun f => G f (Pa.rest L n k)) x) (hn : Pa.opOf (opL ops) (Pa.rest L n k) = none → ∀ x, Pa.Ev (fun f => q f (Pa.rest L n k)) x → Pa.Ev (fun f => G f (Pa.rest L n k)) x) (hX : ∀ (j o : Nat), ops[j]? = some o → W.cell? ⟨X, j, none⟩ = some (.int .i64 o)) (h : Cr L n tbk tc P k0 w p0 k b bs os G W) :
 Calls Tryz.prog 74 #[.pointer (some ⟨P, 0, none⟩), .slice (some ⟨X, 0, none⟩) N N] W fun e W' => ∃ ov : Int, e = .returned (.int .i64 ov) ∧ Hid ((∃ o : Nat, ov = (o : Int) ∧ o ≤ 12 ∧ k < n ∧ Cr L n tbk tc P k0 w p0 k false bs os (fun f ts => p o f ts.tail) W') ∨ (ov = -1 ∧ Cr L n tbk tc P k0 w p0 k b bs os q W')) :=
 (h.op ops N X hN hN9 ho hy hn hX).mono fun _ _ h => by
  rcases h with ⟨o, rfl, h1, h2, h3⟩ | ⟨rfl, h3⟩
  ·exact ⟨_, rfl, Lib.hid (.inl ⟨o, rfl, h1, h2, h3.out⟩)⟩
  ·exact ⟨_, rfl, Lib.hid (.inr ⟨rfl, h3.out⟩)⟩
theorem Cr.inc (h : Cr L n tbk tc P k0 w p0 k false bs os (fun f ts => G f ts.tail) W) (hlt : k < n) : Cr L n tbk tc P k0 w p0 (k + 1) false bs os G (W.setCell ⟨P, 1, none⟩ (.int .i64 (↑k + 1))) := h.passed hlt (gr_set _ _ _ _) (h.ps.inc hlt) fun _ => rfl
theorem Cr.err (h : Cr L n tbk tc P k0 w p0 k b bs os G W) (he : b = false → ∀ f, G (f + 1) (Pa.rest L n k) = .bad (Pa.rest L n k)) : Cr L n tbk tc P k0 w p0 k true bs os G' (W.setCell ⟨P, 2, none⟩ (.bool true)) :=
 h.par (gr_set _ _ _ _) h.ps.err (Nat.le_refl k) fun x hx => by
  cases b with
  | true => exact hx
  | false => exact .step (fun f => he rfl f) hx
theorem Cr.dead (h : Cr L n tbk tc P k0 w p0 k true bs os G W) : Cr L n tbk tc P k0 w p0 k true bs os G' W := ⟨h.m, h.kk, h.tw, h.hL, h.ev⟩
end
end Go.Proofs.YtdckddkalgnlpaaGreatDoor
namespace Go.Proofs.YtdckddkalgnlpaaGreatDoor
open Go.RowKit Go.Maps Pw
def RE (L : List Lex.Tok) (n tbk tc P lv : Nat) (li : Int) (m : Nat) : Prop := ∀ k b w, RS L n tbk tc P k b w → n - k ≤ m → Calls Tryz.prog 35 #[.pointer (some ⟨P, 0, none⟩), .int .i64 li] w (RQ L n tbk tc P k b (fun f ts => Pa.pE f lv ts) rdE w)
def REL (L : List Lex.Tok) (n tbk tc P lv : Nat) (li : Int) (m : Nat) : Prop := ∀ k b w, RS L n tbk tc P k b w → n - k < m → Calls Tryz.prog 35 #[.pointer (some ⟨P, 0, none⟩), .int .i64 li] w (RQ L n tbk tc P k b (fun f ts => Pa.pE f lv ts) rdE w)
theorem slE_two {w : World} {g : Nat} {x y : Tr.E} {a b : Value} {t : TypeId} (h : w.heap[g]? = some (.cells #[.int .i64 x.kind, .int .i64 x.op, .int .i64 x.int, .string x.name, .bool x.at_, a, .int .i64 y.kind, .int .i64 y.op, .int .i64 y.int, .string y.name, .bool y.at_, b] t (0, 0))) (hx : ReadET w (x, a)) (hy : ReadET w (y, b)) : SlE w (.slice (some ⟨g, 0, none⟩) 2 2) [x, y] :=
 slE_blk h [(x, a), (y, b)] (by simp) rfl (fun z hz => by
  simp only [List.mem_cons, List.not_mem_nil, or_false] at hz
  rcases hz with rfl | rfl
  ·exact hx
  ·exact hy)
def RLC (L : List Lex.Tok) (n tbk tc P lv : Nat) (li : Int) (ops : List Nat) (N m : Nat) : Prop := ∀ (XO k : Nat) (b : Bool) (w : World), RS L n tbk tc P k b w → n - k ≤ m → XO ≠ P → (∀ (j o : Nat), ops[j]? = some o → w.cell? ⟨XO, j, none⟩ = some (.int .i64 o)) → Calls Tryz.prog 72 #[.pointer (some ⟨P, 0, none⟩), .int .i64 li, .slice (some ⟨XO, 0, none⟩) N N] w (RQ L n tbk tc P k b (fun f ts => (Pa.pE f lv ts).bind fun a r => Pa.pL f lv (opL ops) a r) rdE w)
set_option maxRecDepth 100000 in
set_option maxHeartbeats 8000000 in
theorem leftR_of {L : List Lex.Tok} {n tbk tc P m : Nat} (hL : Pa.TkL L n) {lv : Nat} {li : Int} (hE : RE L n tbk tc P lv li m) (ops : List Nat) (N : Nat) (hN : ops.length = N) (hN9 : N ≤ 100) (ho : ∀ o ∈ ops, o ≤ 12) : RLC L n tbk tc P lv li ops N m := by
 intro XO k b w hp hk hnp hxc
 have HNP := Lib.hid hnp
 have HXC := Lib.hid hxc
 have HN := Lib.hid hN
 have HO := Lib.hid ho
 have HE := Lib.hid hE
 clear hnp hxc hN ho hE
 obtain ⟨w1, HW, C1⟩ := (Cr.start hL hp (fun f ts => (Pa.pE f lv ts).bind fun a r => Pa.pL f lv (opL ops) a r)).boxR #[.int .i64 0, .int .i64 0, .int .i64 0, .string ⟨#[]⟩, .bool false, .slice none 0 0] 33
 clear hL hp
 go_enter Tryz.func72, Tryz.ntmps72
 go_upto_region 1 with fail
 rw [← HW.out]
 clear HW
 go_wp2_with fail
 refine (C1.out.callE (HE.out _ _ _ C1.out.ps hk)).mono ?_
 rintro e w2 ⟨x1, p1, N1, c1, k1, b1, rfl, hlt1, hn1, -, C2⟩
 clear C1
 obtain ⟨A, w3, HX, HW, hx3, C3⟩ := C2.out.boxE #[.int .i64 x1.kind, .int .i64 x1.op, .int .i64 x1.int, .string x1.name, .bool x1.at_, .slice p1 N1 c1] 33
 go_upto_region 2 with fail
 rw [← HX.out, ← HW.out]
 clear HX HW C2
 go_wp2_with fail
 refine (C3.out.opU ops N XO HN.out hN9 HO.out (p := fun oo f ts => (Pa.pE f lv ts).bind fun b r => Pa.pL f lv (opL ops) (Pa.bin oo x1 b) r) (q := fun _ ts => .ok x1 ts) (fun _ ho _ hx => Pa.ev_pL_some ho hx) (fun ho _ hx => by obtain rfl := Pa.Ev.det (Pa.Ev.const _) hx; exact Pa.ev_pL_none ho) (fun j o hj => gr_cell C3.out.m.gr (HXC.out j o hj) (fun h => HNP.out (by injection h)))).mono ?_
 rintro e w4 ⟨ov1, rfl, HV1⟩
 clear C3
 go_wp2_with fail
 go_loopg [8] (n - k1) (fun gg s8 wr => ∃ (k' : Nat) (b' : Bool) (x : Tr.E) (p : Option Addr) (N c B : Nat) (ov : Int), gg = n - k' ∧ s8 = .int .i64 ov ∧ k ≤ k' ∧ k' ≤ n ∧ Hid ((∃ o : Nat, ov = (o : Int) ∧ o ≤ 12 ∧ k' < n ∧ Cr L n tbk tc P k w (fun f => Pa.mv b (fun f ts => (Pa.pE f lv ts).bind fun a r => Pa.pL f lv (opL ops) a r) (Pa.rest L n k) f) k' false [(A, #[.int .i64 x.kind, .int .i64 x.op, .int .i64 x.int, .string x.name, .bool x.at_, .slice p N c], 33), (w.heap.size, #[.int .i64 0, .int .i64 0, .int .i64 0, .string ⟨#[]⟩, .bool false, .slice none 0 0], 33)] [im B (fun U => ReadET U (x, .slice p N c))] ((fun f ts => (Pa.pE f lv ts.tail).bind fun b r => Pa.pL f lv (opL ops) (Pa.bin o x b) r)) wr) ∨ (ov = -1 ∧ Cr L n tbk tc P k w (fun f => Pa.mv b (fun f ts => (Pa.pE f lv ts).bind fun a r => Pa.pL f lv (opL ops) a r) (Pa.rest L n k) f) k' b' [(A, #[.int .i64 x.kind, .int .i64 x.op, .int .i64 x.int, .string x.name, .bool x.at_, .slice p N c], 33), (w.heap.size, #[.int .i64 0, .int .i64 0, .int .i64 0, .string ⟨#[]⟩, .bool false, .slice none 0 0], 33)] [im B (fun U => ReadET U (x, .slice p N c))] (fun _ ts => .ok x ts) wr)))
 case atStart => exact ⟨k1, b1, x1, p1, N1, c1, _, ov1, rfl, rfl, hlt1, hn1, HV1⟩
 case round =>
  clear HV1 hlt1 hn1
  obtain ⟨k', b', x, p, N', c, B, ov, rfl, rfl, hltk, hnk, HV⟩ := hrel
  rcases HV.out with ⟨o, rfl, ho12, hlt, hC⟩ | ⟨rfl, hC⟩
  ·clear HV
   have CR := Lib.hid hC
   clear hC
   have hge : (0 : Int) ≤ (o : Int) := by omega
   go_upto_region 5 with fail
   have p1 := cell_of_blkP CR.out.ps.blk (j := 1) (u := .int .i64 k') rfl
   have g1 := blk_free CR.out.ps.blk 1
   have hfew := CR.out.hL.few
   have hplt := CR.out.m.pw
   obtain ⟨w5, HW⟩ : ∃ q, Hid (q = wr.setCell ⟨P, 1, none⟩ (.int .i64 ((k' : Nat) + 1))) := ⟨_, Lib.hid rfl⟩
   have C5 := Lib.hid (CR.out.inc (G := fun f ts => (Pa.pE f lv ts).bind fun b r => Pa.pL f lv (opL ops) (Pa.bin o x b) r) hlt)
   rw [← HW.out] at C5
   go_upto_region 6 with fail
   rw [← HW.out]
   clear HW p1 g1 hfew hplt CR
   obtain ⟨w6, HW, C6⟩ := C5.out.drewE
   refine wp_region_held_drew (S := fun _ => True) (by kernel_rfl) trivial (fun _ => ?_)
   rw [← HW.out]
   clear HW C5
   refine rT 0 (some 28) ?_
   try simp only [Act.put, q0, q1, q2]
   refine rT 2 (some 30) ?_
   try simp only [Act.put, q0, q1, q2]
   refine rT 3 (some 31) ?_
   try simp only [Act.put, q0, q1, q2]
   refine rR2 1 (some 29) 4 (some 32) (fun K hK => ?_) (fun K hK => ?_)
   ·obtain ⟨l0, c00, f00, c01, f01, c02, f02, c03, f03, c04, f04, c05, f05⟩ := cells6 (C6.out.m.b 0 rfl)
    go_simp
    refine hK.out _ _ trivial (fun _ => ?_)
    clear hK K
    try simp only [Act.put, q0, q1, q2]
    clear l0 c00 f00 c01 f01 c02 f02 c03 f03 c04 f04 c05 f05
    refine rR1 4 (some 32) (fun K hK => ?_)
    go_simp
    refine (C6.out.callE (HE.out _ _ _ C6.out.ps (by omega))).mono ?_
    rintro e w7 ⟨x2, p2, N2, c2, k2, b2, rfl, hlt2, hn2, -, C7⟩
    clear C6
    go_wp2_with fail
    refine hK.out _ _ trivial (fun _ => ?_)
    clear hK K
    try simp only [Act.put, q0, q1, q2]
    refine rR1 5 (some 33) (fun K hK => ?_)
    go_simp
    refine (C7.out.bin o x x2 (.slice p N' c) (.slice p2 N2 c2)).mono ?_
    rintro e w8 ⟨g, rfl, C8⟩
    clear C7
    go_wp2_with fail
    refine hK.out _ _ trivial (fun _ => ?_)
    clear hK K
    try simp only [Act.put, q0, q1, q2]
    refine rR1 6 none (fun K hK => ?_)
    obtain ⟨l1, c10, f10, c11, f11, c12, f12, c13, f13, c14, f14, c15, f15⟩ := cells6 (C8.out.m.b 1 rfl)
    obtain ⟨w9, HW⟩ : ∃ q, Hid (q = ((((((w8.setCell ⟨A, 0, none⟩ (.int .i64 10)).setCell ⟨A, 1, none⟩ (.int .i64 o)).setCell ⟨A, 2, none⟩ (.int .i64 0)).setCell ⟨A, 3, none⟩ (.string ⟨#[]⟩)).setCell ⟨A, 4, none⟩ (.bool false)).setCell ⟨A, 5, none⟩ (.slice (some ⟨g, 0, none⟩) 2 2))) := ⟨_, Lib.hid rfl⟩
    have C9 := Lib.hid (C8.out.mm (W' := w9) (C8.out.m.set 1 rfl (by rw [HW.out]; exact gr_trans (gr_trans (gr_trans (gr_trans (gr_trans (gr_set w8 A 0 (.int .i64 10)) (gr_set (w8.setCell ⟨A, 0, none⟩ (.int .i64 10)) A 1 (.int .i64 o))) (gr_set ((w8.setCell ⟨A, 0, none⟩ (.int .i64 10)).setCell ⟨A, 1, none⟩ (.int .i64 o)) A 2 (.int .i64 0))) (gr_set (((w8.setCell ⟨A, 0, none⟩ (.int .i64 10)).setCell ⟨A, 1, none⟩ (.int .i64 o)).setCell ⟨A, 2, none⟩ (.int .i64 0)) A 3 (.string ⟨#[]⟩))) (gr_set ((((w8.setCell ⟨A, 0, none⟩ (.int .i64 10)).setCell ⟨A, 1, none⟩ (.int .i64 o)).setCell ⟨A, 2, none⟩ (.int .i64 0)).setCell ⟨A, 3, none⟩ (.string ⟨#[]⟩)) A 4 (.bool false))) (gr_set (((((w8.setCell ⟨A, 0, none⟩ (.int .i64 10)).setCell ⟨A, 1, none⟩ (.int .i64 o)).setCell ⟨A, 2, none⟩ (.int .i64 0)).setCell ⟨A, 3, none⟩ (.string ⟨#[]⟩)).setCell ⟨A, 4, none⟩ (.bool false)) A 5 (.slice (some ⟨g, 0, none⟩) 2 2))) (by rw [HW.out]; exact (heap_set (j := 5) (.slice (some ⟨g, 0, none⟩) 2 2) (heap_set (j := 4) (.bool false) (heap_set (j := 3) (.string ⟨#[]⟩) (heap_set (j := 2) (.int .i64 0) (heap_set (j := 1) (.int .i64 o) (heap_set (j := 0) (.int .i64 10) (C8.out.m.b 1 rfl))))))))))
    go_simp
    refine hK.out _ _ trivial (fun _ => ?_)
    clear hK K
    try simp only [Act.put, q0, q1, q2]
    refine wpAnyH_done (by kernel_rfl) ?_ _
    rw [← HW.out]
    clear HW C8 l1 c10 f10 c11 f11 c12 f12 c13 f13 c14 f14 c15 f15
    have C10 := Lib.hid (C9.out.nrm (bs' := [_, (A, #[.int .i64 10, .int .i64 o, .int .i64 0, .string ⟨#[]⟩, .bool false, .slice (some ⟨g, 0, none⟩) 2 2], 33), _]) rfl)
    clear C9
    have D11 := Lib.hid (C10.out.mm (C10.out.m.fold (rd := fun U => ReadET U (Pa.bin o x x2, .slice (some ⟨g, 0, none⟩) 2 2)) (mn_E _) (fun U b o => ⟨bd_bin ho12 _ _, slE_two b (o 1 rfl) (o 0 rfl)⟩)))
    clear C10
    go_wp2_with fail
    refine (D11.out.opU ops N XO HN.out hN9 HO.out (p := fun oo f ts => (Pa.pE f lv ts).bind fun b r => Pa.pL f lv (opL ops) (Pa.bin oo (Pa.bin o x x2) b) r) (q := fun _ ts => .ok (Pa.bin o x x2) ts) (fun _ ho _ hx => Pa.ev_pL_some ho hx) (fun ho _ hx => by obtain rfl := Pa.Ev.det (Pa.Ev.const _) hx; exact Pa.ev_pL_none ho) (fun j o hj => gr_cell D11.out.m.gr (HXC.out j o hj) (fun h => HNP.out (by injection h)))).mono ?_
    rintro e w12 ⟨ov3, rfl, HV3⟩
    clear D11
    go_wp2_with fail
    go_roundg (n - k2)
    case measure => omega
    case rel => exact ⟨k2, b2, Pa.bin o x x2, _, _, _, _, ov3, rfl, rfl, by omega, by omega, HV3⟩
   ·go_simp
    refine (C6.out.callE (HE.out _ _ _ C6.out.ps (by omega))).mono ?_
    rintro e w13 ⟨x2, p2, N2, c2, k2, b2, rfl, hlt2, hn2, -, C13⟩
    clear C6
    go_wp2_with fail
    refine hK.out _ _ trivial (fun _ => ?_)
    clear hK K
    try simp only [Act.put, q0, q1, q2]
    refine rR1 1 (some 29) (fun K hK => ?_)
    obtain ⟨l0, c00, f00, c01, f01, c02, f02, c03, f03, c04, f04, c05, f05⟩ := cells6 (C13.out.m.b 0 rfl)
    go_simp
    refine hK.out _ _ trivial (fun _ => ?_)
    clear hK K
    try simp only [Act.put, q0, q1, q2]
    clear l0 c00 f00 c01 f01 c02 f02 c03 f03 c04 f04 c05 f05
    refine rR1 5 (some 33) (fun K hK => ?_)
    go_simp
    refine (C13.out.bin o x x2 (.slice p N' c) (.slice p2 N2 c2)).mono ?_
    rintro e w14 ⟨g, rfl, C14⟩
    clear C13
    go_wp2_with fail
    refine hK.out _ _ trivial (fun _ => ?_)
    clear hK K
    try simp only [Act.put, q0, q1, q2]
    refine rR1 6 none (fun K hK => ?_)
    obtain ⟨l1, c10, f10, c11, f11, c12, f12, c13, f13, c14, f14, c15, f15⟩ := cells6 (C14.out.m.b 1 rfl)
    obtain ⟨w15, HW⟩ : ∃ q, Hid (q = ((((((w14.setCell ⟨A, 0, none⟩ (.int .i64 10)).setCell ⟨A, 1, none⟩ (.int .i64 o)).setCell ⟨A, 2, none⟩ (.int .i64 0)).setCell ⟨A, 3, none⟩ (.string ⟨#[]⟩)).setCell ⟨A, 4, none⟩ (.bool false)).setCell ⟨A, 5, none⟩ (.slice (some ⟨g, 0, none⟩) 2 2))) := ⟨_, Lib.hid rfl⟩
    have C15 := Lib.hid (C14.out.mm (W' := w15) (C14.out.m.set 1 rfl (by rw [HW.out]; exact gr_trans (gr_trans (gr_trans (gr_trans (gr_trans (gr_set w14 A 0 (.int .i64 10)) (gr_set (w14.setCell ⟨A, 0, none⟩ (.int .i64 10)) A 1 (.int .i64 o))) (gr_set ((w14.setCell ⟨A, 0, none⟩ (.int .i64 10)).setCell ⟨A, 1, none⟩ (.int .i64 o)) A 2 (.int .i64 0))) (gr_set (((w14.setCell ⟨A, 0, none⟩ (.int .i64 10)).setCell ⟨A, 1, none⟩ (.int .i64 o)).setCell ⟨A, 2, none⟩ (.int .i64 0)) A 3 (.string ⟨#[]⟩))) (gr_set ((((w14.setCell ⟨A, 0, none⟩ (.int .i64 10)).setCell ⟨A, 1, none⟩ (.int .i64 o)).setCell ⟨A, 2, none⟩ (.int .i64 0)).setCell ⟨A, 3, none⟩ (.string ⟨#[]⟩)) A 4 (.bool false))) (gr_set (((((w14.setCell ⟨A, 0, none⟩ (.int .i64 10)).setCell ⟨A, 1, none⟩ (.int .i64 o)).setCell ⟨A, 2, none⟩ (.int .i64 0)).setCell ⟨A, 3, none⟩ (.string ⟨#[]⟩)).setCell ⟨A, 4, none⟩ (.bool false)) A 5 (.slice (some ⟨g, 0, none⟩) 2 2))) (by rw [HW.out]; exact (heap_set (j := 5) (.slice (some ⟨g, 0, none⟩) 2 2) (heap_set (j := 4) (.bool false) (heap_set (j := 3) (.string ⟨#[]⟩) (heap_set (j := 2) (.int .i64 0) (heap_set (j := 1) (.int .i64 o) (heap_set (j := 0) (.int .i64 10) (C14.out.m.b 1 rfl))))))))))
    go_simp
    refine hK.out _ _ trivial (fun _ => ?_)
    clear hK K
    try simp only [Act.put, q0, q1, q2]
    refine wpAnyH_done (by kernel_rfl) ?_ _
    rw [← HW.out]
    clear HW C14 l1 c10 f10 c11 f11 c12 f12 c13 f13 c14 f14 c15 f15
    have C16 := Lib.hid (C15.out.nrm (bs' := [_, (A, #[.int .i64 10, .int .i64 o, .int .i64 0, .string ⟨#[]⟩, .bool false, .slice (some ⟨g, 0, none⟩) 2 2], 33), _]) rfl)
    clear C15
    have D17 := Lib.hid (C16.out.mm (C16.out.m.fold (rd := fun U => ReadET U (Pa.bin o x x2, .slice (some ⟨g, 0, none⟩) 2 2)) (mn_E _) (fun U b o => ⟨bd_bin ho12 _ _, slE_two b (o 1 rfl) (o 0 rfl)⟩)))
    clear C16
    go_wp2_with fail
    refine (D17.out.opU ops N XO HN.out hN9 HO.out (p := fun oo f ts => (Pa.pE f lv ts).bind fun b r => Pa.pL f lv (opL ops) (Pa.bin oo (Pa.bin o x x2) b) r) (q := fun _ ts => .ok (Pa.bin o x x2) ts) (fun _ ho _ hx => Pa.ev_pL_some ho hx) (fun ho _ hx => by obtain rfl := Pa.Ev.det (Pa.Ev.const _) hx; exact Pa.ev_pL_none ho) (fun j o hj => gr_cell D17.out.m.gr (HXC.out j o hj) (fun h => HNP.out (by injection h)))).mono ?_
    rintro e w18 ⟨ov3, rfl, HV3⟩
    clear D17
    go_wp2_with fail
    go_roundg (n - k2)
    case measure => omega
    case rel => exact ⟨k2, b2, Pa.bin o x x2, _, _, _, _, ov3, rfl, rfl, by omega, by omega, HV3⟩
  ·clear HV
   have CR := Lib.hid hC
   clear hC
   obtain ⟨l0, c00, f00, c01, f01, c02, f02, c03, f03, c04, f04, c05, f05⟩ := cells6 (CR.out.m.b 0 rfl)
   obtain ⟨l1, c10, f10, c11, f11, c12, f12, c13, f13, c14, f14, c15, f15⟩ := cells6 (CR.out.m.b 1 rfl)
   go_wp2_with fail
   exact CR.out.retE (x := x) 1 rfl trivial Tryz.results72 rfl rfl (fun U b o => o 0 rfl)
end Go.Proofs.YtdckddkalgnlpaaGreatDoor
