/-
  Several texts in one: PbLawJoin, PaEnv.
-/
import Derived.Test.YtdckddkalgnlpaaGreatDoorJ23
import Derived.Test.YtdckddkalgnlpaaGreatDoorJ24
import Derived.Test.YtdckddkalgnlpaaGreatDoorJ25
import Derived.IntWalk
import Derived.Test.YtdckddkalgnlpaaGreatDoorJ2
import Derived.Test.YtdckddkalgnlpaaGreatDoorCards
import Derived.ProofKit
import Derived.OpenShut
import Derived.SliceStrings
import Derived.LaidLaws
namespace Go.Proofs.YtdckddkalgnlpaaGreatDoor
open Go.RowKit Go.Maps Pw
theorem slC_nil (w : World) (p : Option Addr) (c : Nat) : SlC w (.slice p 0 c) [] := ⟨p, c, rfl, Nat.zero_le _, fun h => absurd rfl h, fun j n hj => by simp at hj⟩
theorem topP_po {s : ByteArray} {w w' : World} {e : Ending} (h : TopP s w e w') : Below w.heap.size w w' ∧ ∃ (x : List Tr.C) (p : Option Addr) (N c o er : Nat), e = .returned (.tuple #[.agg #[.slice p N c], .int .i64 o, .int .i64 er]) ∧ Hid (SlC w' (.slice p N c) x) ∧ Hid (Pa.PO s.data.toList x o er) := by
  obtain ⟨hb, ⟨a, er, h1, h2⟩ | ⟨ts, x, v, h1, h2, h3, h4, h5⟩ | ⟨ts, x, h1, h2, h3, h4⟩ | ⟨ts, k, t, h1, h2, hk, ht, h4⟩⟩ := h
  · exact ⟨hb, [], none, 0, 0, a, er, h2, Lib.hid (slC_nil _ none 0), Lib.hid (.inl ⟨h1, rfl⟩)⟩
  · obtain ⟨p, c, rfl⟩ := h5.form
    exact ⟨hb, x, p, _, c, 0, 0, h4, Lib.hid h5, Lib.hid (.inr (.inl ⟨ts, h1, h2, h3, rfl, rfl⟩))⟩
  · exact ⟨hb, [], none, 0, 0, 0, 8, h4, Lib.hid (slC_nil _ none 0), Lib.hid (.inr (.inr (.inl ⟨ts, x, h1, h2, h3, rfl, rfl, rfl⟩)))⟩
  · exact ⟨hb, [], none, 0, 0, t.pos, 3, h4, Lib.hid (slC_nil _ none 0), Lib.hid (.inr (.inr (.inr ⟨ts, k, t, h1, h2, hk, ht, rfl, rfl, rfl⟩)))⟩
theorem ibeq {a b : Nat} : ((a : Int) == (b : Int)) = decide (a = b) := by
  by_cases h : a = b
  · subst h; simp
  · rw [beq_eq_false_iff_ne.2 (by omega), decide_eq_false h]
theorem ibne {a b : Nat} : ((a : Int) != (b : Int)) = !decide (a = b) := by rw [bne, ibeq]
def Bl (a b : World) : Prop := Below a.heap.size a b
/-- a row of classes that is appended to -/
structure JR (w6 : World) (tr : List CT) (v : Value) (W : World) : Prop where
  be : Below w6.heap.size w6 W
  own : W.ownsRow w6.heap.size 49 4 v tr.length (flatV cCells tr)
section
variable {w6 W : World} {tr : List CT} {v : Value}
theorem JR.start (h : Below w6.heap.size w6 W) : JR w6 [] (.slice (some ⟨W.heap.size, 0, none⟩) 0 0) (W.alloc (.cells #[] 49)) :=
  ⟨h.alloc h.size _, ⟨by simp [flatV], .inr ⟨W.heap.size, 0, #[], rfl, h.size, (MapKept.heap_alloc W _).1, Nat.le_refl _, by unfold maxLen; omega, by simp, by simp [flatV]⟩⟩⟩
theorem JR.alloc (h : JR w6 tr v W) (o : Obj) : JR w6 tr v (W.alloc o) := by
  refine ⟨h.be.alloc h.be.size o, h.own.1, ?_⟩
  rcases h.own.2 with hn | ⟨g, cap, cur, rfl, hb, hg, rest⟩
  · exact .inl hn
  · exact .inr ⟨g, cap, cur, rfl, hb, (below_box W o).block g (lt_of_block hg) |>.trans hg, rest⟩
theorem JR.ne (h : JR w6 tr v W) {B : Nat} {cs : Array Value} (hB : W.heap[B]? = some (.cells cs 25 (0, 0))) : v.ownBlock ≠ some B := fun e => by
  obtain ⟨_, cur, h2⟩ := own_ge h.own e
  rw [hB] at h2
  injection h2 with h2
  injection h2 with _ h3 _
  exact absurd h3 (by decide)
theorem JR.step (h : JR w6 tr v W) {l : List CT} {v2 : Value} (hsrc : SrcAt w6 cCells v2 l) (hrd : ∀ x ∈ l, ReadC w6 x.1 x.2.1 x.2.2) (hlen : tr.length + l.length ≤ 1000000) {ops : Array Oper} {E : Prop} {o : Oper} {a : Act} {K : Act → World → Prop} {Q : Exit → Act → World → Prop} (hgd : o.guard = none) (s x : Operand)
    (ho : o.op = .call { callee := .builtin .append, args := #[s, x], argTypes := #[23, 23] }) (hs : a.eval s = v) (hx : a.eval x = v2)
    (hk : ∀ (p : Option Addr) (N c : Nat) (W' : World), Hid ((tr ++ l).length = N) → Hid (JR w6 (tr ++ l) (.slice p N c) W') → Hid (∀ (B : Nat) (cs : Array Value), W.heap[B]? = some (.cells cs 25 (0, 0)) → W'.heap[B]? = some (.cells cs 25 (0, 0))) → K (a.put o.dst (.slice p N c)) W') : if Region.wanted o (yielded ops a.tmps) = true then Oper.wp Tryz.prog o a W K Q else E := by
  have hw : Region.wanted o (yielded ops a.tmps) = true := by simp [Region.wanted, hgd]
  rw [if_pos hw]
  obtain ⟨i, z, hi, hz, hs1, hb1, hc⟩ := tkC.inf
  have hsrc2 : SrcAt W cCells v2 l := by
    rcases hsrc with h1 | ⟨b, q, c, e, h1⟩
    · exact .inl h1
    · exact .inr ⟨b, q, c, e, fun j u hj => cell_keep' h.be (h1 j u hj)⟩
  have hm : (tr.length + l.length) * i.bytes ≤ 140737488355328 := Nat.le_trans (Nat.mul_le_mul hlen hb1) (by decide)
  refine wp_append_src cCells 4 cCells_len s x _ ho w6.heap.size 49 i z i.bytes tkC.und hi hz hs1 rfl hc (by decide) v v2 tr l hs hx h.own hsrc2 (cCells_one hrd) (by unfold maxLen; omega) hm h.be.size ?_
  intro v' W' h1 h2
  obtain ⟨p, c, rfl⟩ := own_form h1
  exact hk p _ c W' (Lib.hid rfl) (Lib.hid ⟨h.be.grown h2 h.be.size (fun q hq => (own_ge h.own hq).1), h1⟩) (Lib.hid fun B cs hB => gr_at h2 hB (fun e => h.ne hB e.symm))
theorem JR.store (h : JR w6 tr v W) {B : Nat} {cs : Array Value} (hB : W.heap[B]? = some (.cells cs 25 (0, 0))) (hb : w6.heap.size ≤ B) (j : Nat) (u : Value) : JR w6 tr v (W.setCell ⟨B, j, none⟩ u) := by
  refine ⟨h.be.setCell hb u, h.own.1, ?_⟩
  rcases h.own.2 with hn | ⟨g, cap, cur, rfl, hg0, hg, rest⟩
  · exact .inl hn
  · exact .inr ⟨g, cap, cur, rfl, hg0, gr_at (gr_set W B j u) hg (fun e => h.ne hB (by rw [← e]; rfl)), rest⟩
theorem JR.slC (h : JR w6 tr v W) (hr : ∀ x ∈ tr, ReadC w6 x.1 x.2.1 x.2.2) : SlC W v (tr.map Prod.fst) := slC_own h.own (fun x hx => ⟨(hr x hx).1, (hr x hx).2.1.keep h.be, (hr x hx).2.2.keep h.be⟩)
end
set_option maxRecDepth 100000 in
set_option maxHeartbeats 8000000 in
theorem joins_near (s t : ByteArray) (w : World) (hE : LexEnv w) (hs : s.size ≤ 300) (ht : t.size ≤ 300) : Calls Tryz.prog 6 #[.string s, .string t] w fun e w' => e = .returned (.bool true) ∧ Below w.heap.size w w' := by
  have hn1 : s.size ≤ 9223372036854775800 := by omega
  have hn2 : t.size ≤ 9223372036854775800 := by omega
  have HE0 := Lib.hid hE
  have HB0 := Lib.hid (Below.refl w.heap.size w)
  have KA := Lib.hid (awake39_any w hE)
  clear hE
  go_enter Tryz.func6, Tryz.ntmps6
  go_wp2_with fail
  refine KA.out.mono ?_
  rintro e w1 ⟨rfl, hb⟩
  have HE1 := Lib.hid (HE0.out.keep hb)
  have HB1 := Lib.hid (below_next HB0.out hb)
  clear HE0 HB0
  clear hb KA
  go_wp2_with fail
  refine (topP_any s w1 HE1.out hn1).mono ?_
  intro e w2 hp
  obtain ⟨hb, x1, p1, N1, c1, o1, e1, rfl, HS1, HP1⟩ := topP_po hp
  clear hp
  have HE2 := Lib.hid (HE1.out.keep hb)
  have HB2 := Lib.hid (below_next HB1.out hb)
  clear HE1 HB1
  clear hb
  obtain ⟨w3, HW⟩ : ∃ q, Hid (q = w2.alloc (.cells #[.slice p1 N1 c1] 25)) := ⟨_, Lib.hid rfl⟩
  obtain ⟨b1, hbq⟩ : ∃ q, q = w2.heap.size := ⟨_, rfl⟩
  have hb : Below w2.heap.size w2 w3 := by rw [HW.out]; exact below_box _ _
  have HV1 : Hid (w3.cell? ⟨b1, 0, none⟩ = some (.slice p1 N1 c1)) := by rw [HW.out, hbq]; exact box_cell _ _ _ 0 _ rfl
  have HE3 := Lib.hid (HE2.out.keep hb)
  have HB3 := Lib.hid (below_next HB2.out hb)
  clear HE2 HB2
  have HK1 := Lib.hid (HS1.out.keep hb)
  have HQ1 := Lib.hid hbq
  clear hb HS1 hbq
  go_wp2_with fail
  rw [← HQ1.out, ← HW.out]
  clear HW
  refine (topP_any t w3 HE3.out hn2).mono ?_
  intro e w4 hp
  obtain ⟨hb, x2, p2, N2, c2, o2, e2, rfl, HS2, HP2⟩ := topP_po hp
  clear hp
  have HE4 := Lib.hid (HE3.out.keep hb)
  have HB4 := Lib.hid (below_next HB3.out hb)
  clear HE3 HB3
  have HK1 := Lib.hid (HK1.out.keep hb)
  have HV1 := Lib.hid (cell_keep' hb HV1.out)
  clear hb
  obtain ⟨w5, HW⟩ : ∃ q, Hid (q = w4.alloc (.cells #[.slice p2 N2 c2] 25)) := ⟨_, Lib.hid rfl⟩
  obtain ⟨b2, hbq⟩ : ∃ q, q = w4.heap.size := ⟨_, rfl⟩
  have hb : Below w4.heap.size w4 w5 := by rw [HW.out]; exact below_box _ _
  have HV2 : Hid (w5.cell? ⟨b2, 0, none⟩ = some (.slice p2 N2 c2)) := by rw [HW.out, hbq]; exact box_cell _ _ _ 0 _ rfl
  have HE5 := Lib.hid (HE4.out.keep hb)
  have HB5 := Lib.hid (below_next HB4.out hb)
  clear HE4 HB4
  have HK1 := Lib.hid (HK1.out.keep hb)
  have HV1 := Lib.hid (cell_keep' hb HV1.out)
  have HK2 := Lib.hid (HS2.out.keep hb)
  have HQ2 := Lib.hid hbq
  clear hb HS2 hbq
  have hsum : (s ++ ⟨#[10]⟩ ++ t).size = s.size + 1 + t.size := by rw [ByteArray.size_append, ByteArray.size_append]; rfl
  have hn3 : (s ++ ⟨#[10]⟩ ++ t).size ≤ 9223372036854775800 := by omega
  have hz1 : ¬ 9223372036854775807 < s.size + 1 := by omega
  have hz2 : ¬ 9223372036854775807 < s.size + 1 + t.size := by omega
  go_wp2_with fail
  rw [← HQ2.out, ← HW.out]
  clear HW
  refine (topP_any _ w5 HE5.out hn3).mono ?_
  intro e w6 hp
  obtain ⟨hb, x3, p3, N3, c3, o3, e3, rfl, HS3, HP3⟩ := topP_po hp
  clear hp
  have HE6 := Lib.hid (HE5.out.keep hb)
  have HB6 := Lib.hid (below_next HB5.out hb)
  clear HE5 HB5
  have HK1 := Lib.hid (HK1.out.keep hb)
  have HK2 := Lib.hid (HK2.out.keep hb)
  have HV1 := Lib.hid (cell_keep' hb HV1.out)
  have HV2 := Lib.hid (cell_keep' hb HV2.out)
  clear hb
  obtain ⟨w7, HW⟩ : ∃ q, Hid (q = w6.alloc (.cells #[.slice p3 N3 c3] 25)) := ⟨_, Lib.hid rfl⟩
  obtain ⟨b3, hbq⟩ : ∃ q, q = w6.heap.size := ⟨_, rfl⟩
  have hb : Below w6.heap.size w6 w7 := by rw [HW.out]; exact below_box _ _
  have HV3 : Hid (w7.cell? ⟨b3, 0, none⟩ = some (.slice p3 N3 c3)) := by rw [HW.out, hbq]; exact box_cell _ _ _ 0 _ rfl
  have HE7 := Lib.hid (HE6.out.keep hb)
  have HB7 := Lib.hid (below_next HB6.out hb)
  clear HE6 HB6
  have HK1 := Lib.hid (HK1.out.keep hb)
  have HK2 := Lib.hid (HK2.out.keep hb)
  have HV1 := Lib.hid (cell_keep' hb HV1.out)
  have HV2 := Lib.hid (cell_keep' hb HV2.out)
  have HK3 := Lib.hid (HS3.out.keep hb)
  have HQ3 := Lib.hid hbq
  clear hb HS3 hbq
  have HP3 : Hid (Pa.PO (s.data.toList ++ 10 :: t.data.toList) x3 o3 e3) := by
    have h := HP3.out
    have e : (s ++ ⟨#[10]⟩ ++ t).data.toList = s.data.toList ++ 10 :: t.data.toList := by simp
    rw [e] at h
    exact h
  cases hsc : Lex.scan t.data.toList with
  | bad a er =>
    have hpos : 0 < er := scan_badpos hsc
    have hne : ((er : Int) != 0) = true := by rw [bne_iff_ne]; omega
    go_wp2_with fail
    rw [← HQ3.out, ← HW.out]
    refine (scan_bad t a er w7 HE7.out hn2 hsc).mono ?_
    rintro e w8 ⟨rfl, hb⟩
    go_wp2_with fail
    go_ret
    exact ⟨rfl, below_next HB7.out hb⟩
  | toks ts =>
    have hl0 := (scan_tkl hsc).2.2.1
    have HNE : Hid (ts ≠ []) := Lib.hid (fun h => by rw [h] at hl0; simp at hl0)
    have HJ := Lib.hid (Pa.PO.join HP1.out HP2.out HP3.out (by rw [← Lib.size_eq]; exact hs) (by rw [← Lib.size_eq]; exact ht) hsc)
    have hlx := Pa.PO.len HP1.out (by rw [← Lib.size_eq]; omega)
    have hly := Pa.PO.len HP2.out (by rw [← Lib.size_eq]; omega)
    have HSC := Lib.hid hsc
    obtain ⟨NT, hNT⟩ : ∃ q, ts.length = q := ⟨_, rfl⟩
    have HNT := Lib.hid hNT
    clear hsc hl0 hNT
    go_wp2_with fail
    rw [← HQ3.out, ← HW.out]
    clear HW HQ1 HQ2 HQ3
    refine (scan_toks2 t ts w7 HE7.out (by omega) HSC.out HNE.out).mono ?_
    rintro e w8 ⟨g, cap, rfl, hcap, hta, hg1, hg2, hb⟩
    rw [HNT.out] at hcap ⊢
    have HE8 := Lib.hid (HE7.out.keep hb)
    have HB8 := Lib.hid (below_next HB7.out hb)
    clear HE7 HB7
    have HK1 := Lib.hid (HK1.out.keep hb)
    have HK2 := Lib.hid (HK2.out.keep hb)
    have HK3 := Lib.hid (HK3.out.keep hb)
    have HV1 := Lib.hid (cell_keep' hb HV1.out)
    have HV2 := Lib.hid (cell_keep' hb HV2.out)
    have HV3 := Lib.hid (cell_keep' hb HV3.out)
    clear hb hta HP1 HP3 hcap hg1 hg2
    by_cases z1 : e1 = 0
    · have k1 : ((e1 : Int) != (0 : Int)) = false := by rw [show (0 : Int) = ((0 : Nat) : Int) from rfl]; first | rw [ibne, decide_eq_true (z1)]; rfl | rw [ibne, decide_eq_false (z1)]; rfl | rw [ibeq, decide_eq_true (z1)] | rw [ibeq, decide_eq_false (z1)]
      by_cases z2 : e2 = 0
      · have k2 : ((e2 : Int) != (0 : Int)) = false := by rw [show (0 : Int) = ((0 : Nat) : Int) from rfl]; first | rw [ibne, decide_eq_true (z2)]; rfl | rw [ibne, decide_eq_false (z2)]; rfl | rw [ibeq, decide_eq_true (z2)] | rw [ibeq, decide_eq_false (z2)]
        obtain ⟨h4, h5⟩ := HJ.out.2.2 z1 z2
        have k3 : ((e3 : Int) == (0 : Int)) = true := by rw [show (0 : Int) = ((0 : Nat) : Int) from rfl]; first | rw [ibne, decide_eq_true (h4)]; rfl | rw [ibne, decide_eq_false (h4)]; rfl | rw [ibeq, decide_eq_true (h4)] | rw [ibeq, decide_eq_false (h4)]
        have HX := Lib.hid h5
        clear HJ z1 z2 h4 h5
        go_upto_region 15 with fail
        obtain ⟨w9, HW⟩ : ∃ q, Hid (q = w8.drew) := ⟨_, Lib.hid rfl⟩
        have hb : Below w8.heap.size w8 w9 := by rw [HW.out]; exact (Below.refl _ _).drew
        have HE9 := Lib.hid (HE8.out.keep hb)
        have HB9 := Lib.hid (below_next HB8.out hb)
        clear HE8 HB8
        have HK1 := Lib.hid (HK1.out.keep hb)
        have HK2 := Lib.hid (HK2.out.keep hb)
        have HK3 := Lib.hid (HK3.out.keep hb)
        have HV1 := Lib.hid (cell_keep' hb HV1.out)
        have HV2 := Lib.hid (cell_keep' hb HV2.out)
        have HV3 := Lib.hid (cell_keep' hb HV3.out)
        clear hb
        obtain ⟨l1, hl1, hr1, hsrc1⟩ := Pw.SlC.rows HK1.out
        obtain ⟨l2, hl2, hr2, hsrc2⟩ := Pw.SlC.rows HK2.out
        have HL1 := Lib.hid hl1
        have HL2 := Lib.hid hl2
        have HR1 := Lib.hid hr1
        have HR2 := Lib.hid hr2
        have HSRC1 := Lib.hid hsrc1
        have HSRC2 := Lib.hid hsrc2
        have HLEN : Hid (l1.length + l2.length ≤ 1000000) := Lib.hid (by rw [← hl1, List.length_map] at hlx; rw [← hl2, List.length_map] at hly; omega)
        clear hl1 hl2 hr1 hr2 hsrc1 hsrc2
        have HC1 := HV1
        have HC2 := HV2
        refine wp_region_held_drew (S := fun W => W.cell? ⟨b1, 0, none⟩ = some (.slice p1 N1 c1) ∧ W.cell? ⟨b2, 0, none⟩ = some (.slice p2 N2 c2) ∧ Hid (Bl w9 W)) (by kernel_rfl) (by rw [← HW.out]; exact ⟨HV1.out, HV2.out, Lib.hid (Below.refl _ _)⟩) (fun hHeld => ?_)
        rw [← HW.out] at hHeld ⊢
        clear HW
        refine rT 1 (some 96) ?_
        try simp only [Act.put, q0, q1, q2]
        refine rT 2 (some 97) ?_
        try simp only [Act.put, q0, q1, q2]
        refine rT 4 (some 99) ?_
        try simp only [Act.put, q0, q1, q2]
        refine rT 5 (some 100) ?_
        try simp only [Act.put, q0, q1, q2]
        clear hHeld
        refine rR2 0 (some 95) 8 (some 17) (fun K hK => ?_) (fun K hK => ?_)
        · have J1 := Lib.hid (JR.start (Below.refl w9.heap.size w9))
          try clear hHeld
          go_simp
          refine hK.out _ _ ⟨cell_keep' (J1.out.be) HC1.out, cell_keep' (J1.out.be) HC2.out, Lib.hid (J1.out.be)⟩ (fun hHeld => ?_)
          clear hK K
          try simp only [Act.put, q0, q1, q2]
          obtain ⟨wj1, HWJ⟩ : ∃ q, Hid (q = w9.alloc (.cells #[] 49)) := ⟨_, Lib.hid rfl⟩
          have hbw : Below w9.heap.size w9 wj1 := by rw [HWJ.out]; exact below_box _ _
          rw [← HWJ.out] at J1 hHeld ⊢
          clear HWJ hbw
          refine rR2 3 (some 98) 8 (some 17) (fun K hK => ?_) (fun K hK => ?_)
          · try clear hHeld
            refine J1.out.step HSRC1.out HR1.out (by have := HLEN.out; simp only [List.length_nil]; omega) (by rfl) _ _ (by rfl) (by rfl) (by rfl) ?_
            intro pj2 Nj2 cj2 wj2 HNJ2 J2 HO2
            refine hK.out _ _ ⟨cell_keep' (J2.out.be) HC1.out, cell_keep' (J2.out.be) HC2.out, Lib.hid (J2.out.be)⟩ (fun hHeld => ?_)
            clear hK K
            try simp only [Act.put, q0, q1, q2]
            clear J1 HO2
            refine rR2 6 (some 101) 8 (some 17) (fun K hK => ?_) (fun K hK => ?_)
            · try clear hHeld
              refine J2.out.step HSRC2.out HR2.out (by have := HLEN.out; simp only [List.length_append, List.length_nil]; omega) (by rfl) _ _ (by rfl) (by rfl) (by rfl) ?_
              intro pj3 Nj3 cj3 wj3 HNJ3 J3 HO3
              refine hK.out _ _ ⟨cell_keep' (J3.out.be) HC1.out, cell_keep' (J3.out.be) HC2.out, Lib.hid (J3.out.be)⟩ (fun hHeld => ?_)
              clear hK K
              try simp only [Act.put, q0, q1, q2]
              clear J2 HO3
              refine rT 7 (some 102) ?_
              try simp only [Act.put, q0, q1, q2]
              refine rR1 8 (some 17) (fun K hK => ?_)
              try clear hHeld
              have J4 := Lib.hid (J3.out.alloc (.cells #[.slice none 0 0] 25))
              go_simp
              refine hK.out _ _ ⟨cell_keep' (J4.out.be) HC1.out, cell_keep' (J4.out.be) HC2.out, Lib.hid (J4.out.be)⟩ (fun hHeld => ?_)
              clear hK K
              try simp only [Act.put, q0, q1, q2]
              obtain ⟨wj4, HWJ⟩ : ∃ q, Hid (q = wj3.alloc (.cells #[.slice none 0 0] 25)) := ⟨_, Lib.hid rfl⟩
              obtain ⟨B, HBB⟩ : ∃ q, Hid (q = wj3.heap.size) := ⟨_, Lib.hid rfl⟩
              have HBV : Hid (wj4.heap[B]? = some (.cells #[.slice none 0 0] 25 (0, 0))) := by rw [HWJ.out, HBB.out]; exact new_at rfl
              have HBG : w9.heap.size ≤ B := by rw [HBB.out]; exact (J3.out.be).size
              rw [← HWJ.out, ← HBB.out]
              rw [← HWJ.out] at hHeld J4
              clear HWJ HBB J3
              refine rR1 9 none (fun K hK => ?_)
              clear hHeld
              obtain ⟨lB, cB, fB⟩ := cells1 HBV.out
              have JS := Lib.hid (J4.out.store HBV.out HBG 0 (.slice pj3 Nj3 cj3))
              have HBS := heap_set (j := 0) (.slice pj3 Nj3 cj3) HBV.out
              go_simp
              refine hK.out _ _ ⟨cell_keep' (JS.out.be) HC1.out, cell_keep' (JS.out.be) HC2.out, Lib.hid (JS.out.be)⟩ (fun hHeld => ?_)
              clear hK K
              try simp only [Act.put, q0, q1, q2]
              refine wpAnyH_done (by kernel_rfl) ?_ _
              clear hHeld lB cB fB HBV
              obtain ⟨wy, HWJ⟩ : ∃ q, Hid (q = wj4.setCell ⟨B, 0, none⟩ (.slice pj3 Nj3 cj3)) := ⟨_, Lib.hid rfl⟩
              rw [← HWJ.out] at JS HBS
              rw [← HWJ.out]
              clear HWJ J4
              obtain ⟨lB, cB, fB⟩ := cells1 HBS
              have c3 := cell_keep' JS.out.be HV3.out
              have HA := Lib.hid (JS.out.slC (fun x hx => by
                rcases List.mem_append.1 hx with h | h
                · exact HR1.out x (by simpa using h)
                · exact HR2.out x h))
              have HK := Lib.hid (HK3.out.keep JS.out.be)
              clear HBS
              have kq := equal_any _ _ _ _ _ HK.out HA.out
              have hq : Sy.sameCs x3 ((([] : List CT) ++ l1 ++ l2).map Prod.fst) = true := by rw [HX.out, List.map_append, List.nil_append, HL1.out, HL2.out]; exact (Sy.sameCs_iff _ _).2 rfl
              rw [hq] at kq
              have KQ := Lib.hid kq
              clear kq hq
              go_wp2_with fail
              refine KQ.out.mono ?_
              rintro e wz ⟨rfl, hb⟩
              go_wp2_with fail
              go_ret
              exact ⟨rfl, below_next HB9.out (below_next JS.out.be hb)⟩
            · try clear hHeld
              have J5 := Lib.hid (J2.out.alloc (.cells #[.slice none 0 0] 25))
              go_simp
              refine hK.out _ _ ⟨cell_keep' (J5.out.be) HC1.out, cell_keep' (J5.out.be) HC2.out, Lib.hid (J5.out.be)⟩ (fun hHeld => ?_)
              clear hK K
              try simp only [Act.put, q0, q1, q2]
              obtain ⟨wj5, HWJ⟩ : ∃ q, Hid (q = wj2.alloc (.cells #[.slice none 0 0] 25)) := ⟨_, Lib.hid rfl⟩
              obtain ⟨B, HBB⟩ : ∃ q, Hid (q = wj2.heap.size) := ⟨_, Lib.hid rfl⟩
              have HBV : Hid (wj5.heap[B]? = some (.cells #[.slice none 0 0] 25 (0, 0))) := by rw [HWJ.out, HBB.out]; exact new_at rfl
              have HBG : w9.heap.size ≤ B := by rw [HBB.out]; exact (J2.out.be).size
              rw [← HWJ.out, ← HBB.out]
              rw [← HWJ.out] at hHeld J5
              clear HWJ HBB J2
              refine rR1 6 (some 101) (fun K hK => ?_)
              try clear hHeld
              refine J5.out.step HSRC2.out HR2.out (by have := HLEN.out; simp only [List.length_append, List.length_nil]; omega) (by rfl) _ _ (by rfl) (by rfl) (by rfl) ?_
              intro pj6 Nj6 cj6 wj6 HNJ6 J6 HO6
              refine hK.out _ _ ⟨cell_keep' (J6.out.be) HC1.out, cell_keep' (J6.out.be) HC2.out, Lib.hid (J6.out.be)⟩ (fun hHeld => ?_)
              clear hK K
              try simp only [Act.put, q0, q1, q2]
              have HBV := Lib.hid (HO6.out _ _ HBV.out)
              clear J5 HO6
              refine rT 7 (some 102) ?_
              try simp only [Act.put, q0, q1, q2]
              refine rR1 9 none (fun K hK => ?_)
              clear hHeld
              obtain ⟨lB, cB, fB⟩ := cells1 HBV.out
              have JS := Lib.hid (J6.out.store HBV.out HBG 0 (.slice pj6 Nj6 cj6))
              have HBS := heap_set (j := 0) (.slice pj6 Nj6 cj6) HBV.out
              go_simp
              refine hK.out _ _ ⟨cell_keep' (JS.out.be) HC1.out, cell_keep' (JS.out.be) HC2.out, Lib.hid (JS.out.be)⟩ (fun hHeld => ?_)
              clear hK K
              try simp only [Act.put, q0, q1, q2]
              refine wpAnyH_done (by kernel_rfl) ?_ _
              clear hHeld lB cB fB HBV
              obtain ⟨wy, HWJ⟩ : ∃ q, Hid (q = wj6.setCell ⟨B, 0, none⟩ (.slice pj6 Nj6 cj6)) := ⟨_, Lib.hid rfl⟩
              rw [← HWJ.out] at JS HBS
              rw [← HWJ.out]
              clear HWJ J6
              obtain ⟨lB, cB, fB⟩ := cells1 HBS
              have c3 := cell_keep' JS.out.be HV3.out
              have HA := Lib.hid (JS.out.slC (fun x hx => by
                rcases List.mem_append.1 hx with h | h
                · exact HR1.out x (by simpa using h)
                · exact HR2.out x h))
              have HK := Lib.hid (HK3.out.keep JS.out.be)
              clear HBS
              have kq := equal_any _ _ _ _ _ HK.out HA.out
              have hq : Sy.sameCs x3 ((([] : List CT) ++ l1 ++ l2).map Prod.fst) = true := by rw [HX.out, List.map_append, List.nil_append, HL1.out, HL2.out]; exact (Sy.sameCs_iff _ _).2 rfl
              rw [hq] at kq
              have KQ := Lib.hid kq
              clear kq hq
              go_wp2_with fail
              refine KQ.out.mono ?_
              rintro e wz ⟨rfl, hb⟩
              go_wp2_with fail
              go_ret
              exact ⟨rfl, below_next HB9.out (below_next JS.out.be hb)⟩
          · try clear hHeld
            have J7 := Lib.hid (J1.out.alloc (.cells #[.slice none 0 0] 25))
            go_simp
            refine hK.out _ _ ⟨cell_keep' (J7.out.be) HC1.out, cell_keep' (J7.out.be) HC2.out, Lib.hid (J7.out.be)⟩ (fun hHeld => ?_)
            clear hK K
            try simp only [Act.put, q0, q1, q2]
            obtain ⟨wj7, HWJ⟩ : ∃ q, Hid (q = wj1.alloc (.cells #[.slice none 0 0] 25)) := ⟨_, Lib.hid rfl⟩
            obtain ⟨B, HBB⟩ : ∃ q, Hid (q = wj1.heap.size) := ⟨_, Lib.hid rfl⟩
            have HBV : Hid (wj7.heap[B]? = some (.cells #[.slice none 0 0] 25 (0, 0))) := by rw [HWJ.out, HBB.out]; exact new_at rfl
            have HBG : w9.heap.size ≤ B := by rw [HBB.out]; exact (J1.out.be).size
            rw [← HWJ.out, ← HBB.out]
            rw [← HWJ.out] at hHeld J7
            clear HWJ HBB J1
            refine rR1 3 (some 98) (fun K hK => ?_)
            try clear hHeld
            refine J7.out.step HSRC1.out HR1.out (by have := HLEN.out; simp only [List.length_nil]; omega) (by rfl) _ _ (by rfl) (by rfl) (by rfl) ?_
            intro pj8 Nj8 cj8 wj8 HNJ8 J8 HO8
            refine hK.out _ _ ⟨cell_keep' (J8.out.be) HC1.out, cell_keep' (J8.out.be) HC2.out, Lib.hid (J8.out.be)⟩ (fun hHeld => ?_)
            clear hK K
            try simp only [Act.put, q0, q1, q2]
            have HBV := Lib.hid (HO8.out _ _ HBV.out)
            clear J7 HO8
            refine rR1 6 (some 101) (fun K hK => ?_)
            try clear hHeld
            refine J8.out.step HSRC2.out HR2.out (by have := HLEN.out; simp only [List.length_append, List.length_nil]; omega) (by rfl) _ _ (by rfl) (by rfl) (by rfl) ?_
            intro pj9 Nj9 cj9 wj9 HNJ9 J9 HO9
            refine hK.out _ _ ⟨cell_keep' (J9.out.be) HC1.out, cell_keep' (J9.out.be) HC2.out, Lib.hid (J9.out.be)⟩ (fun hHeld => ?_)
            clear hK K
            try simp only [Act.put, q0, q1, q2]
            have HBV := Lib.hid (HO9.out _ _ HBV.out)
            clear J8 HO9
            refine rT 7 (some 102) ?_
            try simp only [Act.put, q0, q1, q2]
            refine rR1 9 none (fun K hK => ?_)
            clear hHeld
            obtain ⟨lB, cB, fB⟩ := cells1 HBV.out
            have JS := Lib.hid (J9.out.store HBV.out HBG 0 (.slice pj9 Nj9 cj9))
            have HBS := heap_set (j := 0) (.slice pj9 Nj9 cj9) HBV.out
            go_simp
            refine hK.out _ _ ⟨cell_keep' (JS.out.be) HC1.out, cell_keep' (JS.out.be) HC2.out, Lib.hid (JS.out.be)⟩ (fun hHeld => ?_)
            clear hK K
            try simp only [Act.put, q0, q1, q2]
            refine wpAnyH_done (by kernel_rfl) ?_ _
            clear hHeld lB cB fB HBV
            obtain ⟨wy, HWJ⟩ : ∃ q, Hid (q = wj9.setCell ⟨B, 0, none⟩ (.slice pj9 Nj9 cj9)) := ⟨_, Lib.hid rfl⟩
            rw [← HWJ.out] at JS HBS
            rw [← HWJ.out]
            clear HWJ J9
            obtain ⟨lB, cB, fB⟩ := cells1 HBS
            have c3 := cell_keep' JS.out.be HV3.out
            have HA := Lib.hid (JS.out.slC (fun x hx => by
              rcases List.mem_append.1 hx with h | h
              · exact HR1.out x (by simpa using h)
              · exact HR2.out x h))
            have HK := Lib.hid (HK3.out.keep JS.out.be)
            clear HBS
            have kq := equal_any _ _ _ _ _ HK.out HA.out
            have hq : Sy.sameCs x3 ((([] : List CT) ++ l1 ++ l2).map Prod.fst) = true := by rw [HX.out, List.map_append, List.nil_append, HL1.out, HL2.out]; exact (Sy.sameCs_iff _ _).2 rfl
            rw [hq] at kq
            have KQ := Lib.hid kq
            clear kq hq
            go_wp2_with fail
            refine KQ.out.mono ?_
            rintro e wz ⟨rfl, hb⟩
            go_wp2_with fail
            go_ret
            exact ⟨rfl, below_next HB9.out (below_next JS.out.be hb)⟩
        · try clear hHeld
          have HBE := Lib.hid ((Below.refl w9.heap.size w9).alloc (Nat.le_refl _) (.cells #[.slice none 0 0] 25))
          go_simp
          refine hK.out _ _ ⟨cell_keep' (HBE.out) HC1.out, cell_keep' (HBE.out) HC2.out, Lib.hid (HBE.out)⟩ (fun hHeld => ?_)
          clear hK K
          try simp only [Act.put, q0, q1, q2]
          obtain ⟨wj10, HWJ⟩ : ∃ q, Hid (q = w9.alloc (.cells #[.slice none 0 0] 25)) := ⟨_, Lib.hid rfl⟩
          obtain ⟨B, HBB⟩ : ∃ q, Hid (q = w9.heap.size) := ⟨_, Lib.hid rfl⟩
          have HBV : Hid (wj10.heap[B]? = some (.cells #[.slice none 0 0] 25 (0, 0))) := by rw [HWJ.out, HBB.out]; exact new_at rfl
          have HBG : w9.heap.size ≤ B := by rw [HBB.out]; exact (Below.refl w9.heap.size w9).size
          rw [← HWJ.out, ← HBB.out]
          rw [← HWJ.out] at hHeld HBE
          clear HWJ HBB
          refine rR1 0 (some 95) (fun K hK => ?_)
          have J11 := Lib.hid (JR.start (HBE.out))
          try clear hHeld
          go_simp
          refine hK.out _ _ ⟨cell_keep' (J11.out.be) HC1.out, cell_keep' (J11.out.be) HC2.out, Lib.hid (J11.out.be)⟩ (fun hHeld => ?_)
          clear hK K
          try simp only [Act.put, q0, q1, q2]
          obtain ⟨wj11, HWJ⟩ : ∃ q, Hid (q = wj10.alloc (.cells #[] 49)) := ⟨_, Lib.hid rfl⟩
          have HBV : Hid (wj11.heap[B]? = some (.cells #[.slice none 0 0] 25 (0, 0))) := by rw [HWJ.out]; exact gr_at (gr_below (below_box _ _) none) HBV.out (fun e => by cases e)
          have hbw : Below wj10.heap.size wj10 wj11 := by rw [HWJ.out]; exact below_box _ _
          rw [← HWJ.out] at J11 hHeld ⊢
          clear HWJ hbw
          refine rR1 3 (some 98) (fun K hK => ?_)
          try clear hHeld
          refine J11.out.step HSRC1.out HR1.out (by have := HLEN.out; simp only [List.length_nil]; omega) (by rfl) _ _ (by rfl) (by rfl) (by rfl) ?_
          intro pj12 Nj12 cj12 wj12 HNJ12 J12 HO12
          refine hK.out _ _ ⟨cell_keep' (J12.out.be) HC1.out, cell_keep' (J12.out.be) HC2.out, Lib.hid (J12.out.be)⟩ (fun hHeld => ?_)
          clear hK K
          try simp only [Act.put, q0, q1, q2]
          have HBV := Lib.hid (HO12.out _ _ HBV.out)
          clear J11 HO12
          refine rR1 6 (some 101) (fun K hK => ?_)
          try clear hHeld
          refine J12.out.step HSRC2.out HR2.out (by have := HLEN.out; simp only [List.length_append, List.length_nil]; omega) (by rfl) _ _ (by rfl) (by rfl) (by rfl) ?_
          intro pj13 Nj13 cj13 wj13 HNJ13 J13 HO13
          refine hK.out _ _ ⟨cell_keep' (J13.out.be) HC1.out, cell_keep' (J13.out.be) HC2.out, Lib.hid (J13.out.be)⟩ (fun hHeld => ?_)
          clear hK K
          try simp only [Act.put, q0, q1, q2]
          have HBV := Lib.hid (HO13.out _ _ HBV.out)
          clear J12 HO13
          refine rT 7 (some 102) ?_
          try simp only [Act.put, q0, q1, q2]
          refine rR1 9 none (fun K hK => ?_)
          clear hHeld
          obtain ⟨lB, cB, fB⟩ := cells1 HBV.out
          have JS := Lib.hid (J13.out.store HBV.out HBG 0 (.slice pj13 Nj13 cj13))
          have HBS := heap_set (j := 0) (.slice pj13 Nj13 cj13) HBV.out
          go_simp
          refine hK.out _ _ ⟨cell_keep' (JS.out.be) HC1.out, cell_keep' (JS.out.be) HC2.out, Lib.hid (JS.out.be)⟩ (fun hHeld => ?_)
          clear hK K
          try simp only [Act.put, q0, q1, q2]
          refine wpAnyH_done (by kernel_rfl) ?_ _
          clear hHeld lB cB fB HBV
          obtain ⟨wy, HWJ⟩ : ∃ q, Hid (q = wj13.setCell ⟨B, 0, none⟩ (.slice pj13 Nj13 cj13)) := ⟨_, Lib.hid rfl⟩
          rw [← HWJ.out] at JS HBS
          rw [← HWJ.out]
          clear HWJ J13
          obtain ⟨lB, cB, fB⟩ := cells1 HBS
          have c3 := cell_keep' JS.out.be HV3.out
          have HA := Lib.hid (JS.out.slC (fun x hx => by
            rcases List.mem_append.1 hx with h | h
            · exact HR1.out x (by simpa using h)
            · exact HR2.out x h))
          have HK := Lib.hid (HK3.out.keep JS.out.be)
          clear HBS
          have kq := equal_any _ _ _ _ _ HK.out HA.out
          have hq : Sy.sameCs x3 ((([] : List CT) ++ l1 ++ l2).map Prod.fst) = true := by rw [HX.out, List.map_append, List.nil_append, HL1.out, HL2.out]; exact (Sy.sameCs_iff _ _).2 rfl
          rw [hq] at kq
          have KQ := Lib.hid kq
          clear kq hq
          go_wp2_with fail
          refine KQ.out.mono ?_
          rintro e wz ⟨rfl, hb⟩
          go_wp2_with fail
          go_ret
          exact ⟨rfl, below_next HB9.out (below_next JS.out.be hb)⟩
      · have k2 : ((e2 : Int) != (0 : Int)) = true := by rw [show (0 : Int) = ((0 : Nat) : Int) from rfl]; first | rw [ibne, decide_eq_true (z2)]; rfl | rw [ibne, decide_eq_false (z2)]; rfl | rw [ibeq, decide_eq_true (z2)] | rw [ibeq, decide_eq_false (z2)]
        obtain ⟨h4, h5⟩ := HJ.out.2.1 z1 z2
        have h5 : o3 = s.size + 1 + o2 := by rw [Lib.size_eq]; exact h5
        by_cases z3 : e2 = 8
        · have k3 : ((e2 : Int) == (8 : Int)) = true := by rw [show (8 : Int) = ((8 : Nat) : Int) from rfl]; first | rw [ibne, decide_eq_true (z3)]; rfl | rw [ibne, decide_eq_false (z3)]; rfl | rw [ibeq, decide_eq_true (z3)] | rw [ibeq, decide_eq_false (z3)]
          clear HJ z1 z2 z3 h4 h5
          go_wp2_with fail
          go_ret
          exact ⟨rfl, HB8.out⟩
        · have k3 : ((e2 : Int) == (8 : Int)) = false := by rw [show (8 : Int) = ((8 : Nat) : Int) from rfl]; first | rw [ibne, decide_eq_true (z3)]; rfl | rw [ibne, decide_eq_false (z3)]; rfl | rw [ibeq, decide_eq_true (z3)] | rw [ibeq, decide_eq_false (z3)]
          have k4 : ((e3 : Int) == (e2 : Int)) = true := by rw [show (e2 : Int) = ((e2 : Nat) : Int) from rfl]; first | rw [ibne, decide_eq_true (h4)]; rfl | rw [ibne, decide_eq_false (h4)]; rfl | rw [ibeq, decide_eq_true (h4)] | rw [ibeq, decide_eq_false (h4)]
          have ho2 := Pa.PO.off HP2.out HSC.out
          have hwr : wrap64 ((s.size : Int) + 1 + (o2 : Int)) = (s.size : Int) + 1 + (o2 : Int) := IntWalk.wrap64_in _ ⟨by omega, by omega⟩
          have k5 : ((o3 : Int) == (s.size : Int) + 1 + (o2 : Int)) = true := by rw [h5]; simp
          clear ho2
          clear HJ z1 z2 z3 h4 h5
          go_wp2_with fail
          go_ret
          exact ⟨rfl, HB8.out⟩
    · have k1 : ((e1 : Int) != (0 : Int)) = true := by rw [show (0 : Int) = ((0 : Nat) : Int) from rfl]; first | rw [ibne, decide_eq_true (z1)]; rfl | rw [ibne, decide_eq_false (z1)]; rfl | rw [ibeq, decide_eq_true (z1)] | rw [ibeq, decide_eq_false (z1)]
      have hj := HJ.out.1 z1
      clear HJ
      by_cases z2 : e1 = 3
      · have k2 : ((e1 : Int) != (3 : Int)) = false := by rw [show (3 : Int) = ((3 : Nat) : Int) from rfl]; first | rw [ibne, decide_eq_true (z2)]; rfl | rw [ibne, decide_eq_false (z2)]; rfl | rw [ibeq, decide_eq_true (z2)] | rw [ibeq, decide_eq_false (z2)]
        by_cases z3 : o1 = s.size
        · have k3 : ((o1 : Int) == (s.size : Int)) = true := by rw [show (s.size : Int) = ((s.size : Nat) : Int) from rfl]; first | rw [ibne, decide_eq_true (z3)]; rfl | rw [ibne, decide_eq_false (z3)]; rfl | rw [ibeq, decide_eq_true (z3)] | rw [ibeq, decide_eq_false (z3)]
          clear hj z1 z2 z3
          go_wp2_with fail
          go_ret
          exact ⟨rfl, HB8.out⟩
        · have k3 : ((o1 : Int) == (s.size : Int)) = false := by rw [show (s.size : Int) = ((s.size : Nat) : Int) from rfl]; first | rw [ibne, decide_eq_true (z3)]; rfl | rw [ibne, decide_eq_false (z3)]; rfl | rw [ibeq, decide_eq_true (z3)] | rw [ibeq, decide_eq_false (z3)]
          obtain ⟨h4, h5⟩ : e3 = e1 ∧ o3 = o1 := by
            rcases hj with h | h | h
            · exact absurd z2 h
            · exact absurd (h.trans (Lib.size_eq s).symm) z3
            · exact h
          have k4 : ((e3 : Int) == (e1 : Int)) = true := by rw [show (e1 : Int) = ((e1 : Nat) : Int) from rfl]; first | rw [ibne, decide_eq_true (h4)]; rfl | rw [ibne, decide_eq_false (h4)]; rfl | rw [ibeq, decide_eq_true (h4)] | rw [ibeq, decide_eq_false (h4)]
          have k5 : ((o3 : Int) == (o1 : Int)) = true := by rw [show (o1 : Int) = ((o1 : Nat) : Int) from rfl]; first | rw [ibne, decide_eq_true (h5)]; rfl | rw [ibne, decide_eq_false (h5)]; rfl | rw [ibeq, decide_eq_true (h5)] | rw [ibeq, decide_eq_false (h5)]
          clear hj z1 z2 z3 h4 h5
          go_wp2_with fail
          go_ret
          exact ⟨rfl, HB8.out⟩
      · have k2 : ((e1 : Int) != (3 : Int)) = true := by rw [show (3 : Int) = ((3 : Nat) : Int) from rfl]; first | rw [ibne, decide_eq_true (z2)]; rfl | rw [ibne, decide_eq_false (z2)]; rfl | rw [ibeq, decide_eq_true (z2)] | rw [ibeq, decide_eq_false (z2)]
        clear hj z1 z2
        go_wp2_with fail
        go_ret
        exact ⟨rfl, HB8.out⟩
set_option maxRecDepth 100000 in
set_option maxHeartbeats 8000000 in
theorem joins_far (s t : ByteArray) (w : World) (hE : LexEnv w) (hf : 300 < s.size) : Calls Tryz.prog 6 #[.string s, .string t] w fun e w' => e = .returned (.bool true) ∧ Below w.heap.size w w' := by
  have KA := Lib.hid (awake39_any w hE)
  clear hE
  go_enter Tryz.func6, Tryz.ntmps6
  go_wp2_with fail
  refine KA.out.mono ?_
  rintro e w1 ⟨rfl, hb1⟩
  go_wp2_with fail
  go_ret
  exact ⟨rfl, hb1⟩
set_option maxRecDepth 100000 in
set_option maxHeartbeats 8000000 in
theorem joins_far2 (s t : ByteArray) (w : World) (hE : LexEnv w) (hf1 : s.size ≤ 300) (hf : 300 < t.size) : Calls Tryz.prog 6 #[.string s, .string t] w fun e w' => e = .returned (.bool true) ∧ Below w.heap.size w w' := by
  have KA := Lib.hid (awake39_any w hE)
  clear hE
  go_enter Tryz.func6, Tryz.ntmps6
  go_wp2_with fail
  refine KA.out.mono ?_
  rintro e w1 ⟨rfl, hb1⟩
  go_wp2_with fail
  go_ret
  exact ⟨rfl, hb1⟩
theorem law_joins (s t : ByteArray) (w : World) (hE : LexEnv w) : Calls Tryz.prog 6 #[.string s, .string t] w fun e w' => e = .returned (.bool true) ∧ Below w.heap.size w w' := by
  by_cases hs : s.size ≤ 300
  · by_cases ht : t.size ≤ 300
    · exact joins_near s t w hE hs ht
    · exact joins_far2 s t w hE hs (by omega)
  · exact joins_far s t w hE (by omega)
end Go.Proofs.YtdckddkalgnlpaaGreatDoor
namespace Go.Proofs.YtdckddkalgnlpaaGreatDoor
open Go.RowKit Go.ChangeShapes Go.WideShapes
theorem laidVars_at {P : Program} {W : World} : ∀ {l : List (String × DataW Unit)} {ps : List MemPlace}, DataW.LaidVars P W l ps → ∀ {n : String} {d : DataW Unit}, (n, d) ∈ l →
    ∃ g t cs fuel p, P.globalNamed n = some g ∧ (P.globals[g]?).map (·.type) = some t ∧ W.var? P n = some cs ∧ DataW.trod (fun _ => ()) P W 0 (fun _ => true) false fuel t cs.toList = some (d, p)
  | [], _, _, _, _, hm => by simp at hm
  | (n', d') :: r, ps, h, n, d, hm => by
    obtain ⟨g, t, cs, fuel, p, q, h1, h2, h3, h4, h5, _⟩ := h
    rcases List.mem_cons.1 hm with e | hm
    · cases e
      exact ⟨g, t, cs, fuel, p, h1, h2, h3, h4⟩
    · exact laidVars_at h5 hm
theorem laid_at {P : Program} {W : World} {l : List (String × DataW Unit)} (h : laidMet P l W) {n : String} {d : DataW Unit} (hm : (n, d) ∈ l) :
    ∃ g t cs fuel p, P.globalNamed n = some g ∧ (P.globals[g]?).map (·.type) = some t ∧ W.var? P n = some cs ∧ DataW.trod (fun _ => ()) P W 0 (fun _ => true) false fuel t cs.toList = some (d, p) := by
  obtain ⟨ps, h1, _⟩ := h
  exact laidVars_at h1 hm
/-- a slice of strings that is listed: its cells -/
theorem strings_at {W : World} {l : List (String × DataW Unit)} (h : laidMet Tryz.prog l W) {n : String} {g : Nat} (ls : List (List UInt8)) (hne : ls ≠ [])
    (hm : (n, DataW.slice (ls.map fun x => .lit (.string x)) []) ∈ l) (hg : Tryz.prog.globalNamed n = some g) (hty : (Tryz.prog.globals[g]?).map (·.type) = some 46) (hcs : Tryz.prog.cellsOf 9 = 1) :
    ∃ b o c, W.cell? ⟨g, 0, none⟩ = some (.slice (some ⟨b, o, none⟩) ls.length c) ∧ ∀ j, j < ls.length → W.cell? ⟨b, o + j, none⟩ = some (.string ⟨(ls.getD j []).toArray⟩) := by
  obtain ⟨g', t, cs, fuel, p, h1, h2, h3, h4⟩ := laid_at h hm
  obtain rfl : g = g' := Option.some.inj (hg.symm.trans h1)
  obtain rfl : t = 46 := (Option.some.inj (hty.symm.trans h2)).symm
  rcases open_strings Tryz.underlying46 Tryz.underlying9 hcs h4 with ⟨_, hx⟩ | ⟨a, len, cap, ss, hcs2, _, hl, hm2, hz, hx, hcell, _⟩
  · cases hx
  · have hc0 := World.var?_cell hg h3 0
    have hcs3 : cs[0]? = some (.slice (some a) len cap) := by
      rw [← Array.getElem?_toList, hcs2]; rfl
    rw [hcs3] at hc0
    simp only [Prod.mk.injEq, DataW.slice.injEq] at hx
    obtain ⟨⟨e1, e2⟩, _⟩ := hx
    have hss : (ss.take len).map (fun s => s.data.toList) = ls := by
      have h5 : ∀ (zs : List ByteArray) (ys : List (List UInt8)), ys.map (fun x => (DataW.lit (.string x) : DataW Unit)) = strs zs → zs.map (fun s => s.data.toList) = ys := by
        intro zs
        induction zs with
        | nil => intro ys hy; cases ys with | nil => rfl | cons _ _ => simp [strs] at hy
        | cons z zs ih =>
          intro ys hy
          cases ys with
          | nil => simp [strs] at hy
          | cons y ys =>
            simp only [strs, List.map_cons, List.cons.injEq, DataW.lit.injEq, Lit.string.injEq] at hy ⊢
            exact ⟨hy.1.symm, ih ys hy.2⟩
      exact h5 _ _ e1
    have hslen : ss.length = cap := by simpa using hz
    have hlen : len = ls.length := by
      rw [← hss, List.length_map, List.length_take, hslen]; omega
    have hpos : 0 < ss.length := by
      have : 0 < ls.length := List.length_pos_iff.2 hne
      omega
    obtain ⟨b, o, sp⟩ := a
    have hsp : sp = none := by
      have h6 := hcell 0 hpos
      unfold World.cell? at h6
      cases sp with
      | none => rfl
      | some k =>
        exfalso
        have hsome : ((⟨b, o, some k⟩ : Addr).add 0).spot.isSome = true := by unfold Addr.add; split <;> simp_all
        rw [hsome] at h6
        split at h6
        · simp at h6
        · cases h6
    subst hsp
    refine ⟨b, o, cap, by rw [hc0, hlen], fun j hj => ?_⟩
    have h6 := hcell j (by omega)
    have hadd : (⟨b, o, none⟩ : Addr).add j = ⟨b, o + j, none⟩ := by unfold Addr.add; split <;> simp_all
    rw [hadd] at h6
    rw [h6]
    have h7 : (ls.getD j []) = (ss.getD j ByteArray.empty).data.toList := by
      have hj2 : j < ss.length := by omega
      rw [← hss, List.getD_eq_getElem?_getD, List.getElem?_map, List.getElem?_take, if_pos (by omega), List.getElem?_eq_getElem hj2, List.getD_eq_getElem?_getD, List.getElem?_eq_getElem hj2]
      rfl
    rw [h7]
theorem iface_at {W : World} {l : List (String × DataW Unit)} (h : laidMet Tryz.prog l W) {n : String} {g : Nat} {nm : String} {d : DataW Unit} {ti : TypeId} {ms : Array (String × TypeId)}
    (hm : (n, DataW.iface nm d) ∈ l) (hg : Tryz.prog.globalNamed n = some g) (hty : (Tryz.prog.globals[g]?).map (·.type) = some ti) (hi : Tryz.prog.underlying ti = some (.interface ms)) :
    ∃ te pe, W.cell? ⟨g, 0, none⟩ = some (.iface te pe) := by
  obtain ⟨g', t, cs, fuel, p, h1, h2, h3, h4⟩ := laid_at h hm
  obtain rfl : g = g' := Option.some.inj (hg.symm.trans h1)
  obtain rfl : t = ti := (Option.some.inj (hty.symm.trans h2)).symm
  obtain ⟨_, u, v, hcs2, _⟩ := iface_of_trod hi h4
  have hc0 := World.var?_cell hg h3 0
  have hcs3 : cs[0]? = some (.iface u v) := by
    rw [← Array.getElem?_toList, hcs2]; rfl
  exact ⟨u, v, by rw [hc0, hcs3]⟩
theorem lexEnv_of {W : World} (h : laidMetH Tryz.prog Rows.parserOffsetsRow.laid W) : LexEnv W := by
  have hl : laidMet Tryz.prog Rows.parserOffsetsRow.laid W := h
  have hk := strings_at hl (g := 3) Lex.keywords (by decide) (List.mem_of_getElem? (i := 6) rfl) (by kernel_rfl) (by kernel_rfl) (by kernel_rfl)
  have hs := strings_at hl (g := 1) Lex.symbols (by decide) (List.mem_of_getElem? (i := 7) rfl) (by kernel_rfl) (by kernel_rfl) (by kernel_rfl)
  exact ⟨hk, hs, iface_at hl (g := 6) (List.mem_of_getElem? (i := 4) rfl) (by kernel_rfl) (by kernel_rfl) Tryz.underlying123⟩
end Go.Proofs.YtdckddkalgnlpaaGreatDoor
