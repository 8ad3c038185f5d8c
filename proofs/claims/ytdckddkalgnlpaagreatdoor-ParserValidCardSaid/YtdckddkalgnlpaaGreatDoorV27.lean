/-
  Several texts in one: SyClass, SySize, SySizeS, SySizeP, PaCount, PaExt.
-/
import Derived.Test.YtdckddkalgnlpaaGreatDoorV26
import Derived.Test.YtdckddkalgnlpaaGreatDoorV9
import Derived.Test.YtdckddkalgnlpaaGreatDoorV8
namespace Go.Proofs.YtdckddkalgnlpaaGreatDoor
open Go.RowKit Go.Maps
theorem classT_len (c : Tr.C) : (Sy.classT c).length = (Sy.line 0 ((if c.actor then [97, 99, 116, 111, 114, 32] else [114, 101, 99, 111, 114, 100, 32]) ++ c.name.data.toList ++ [32, 123])).length + ((c.fields.map Sy.fieldT).flatten.length + (c.methods.map Sy.methodT).flatten.length) + (Sy.line 0 [125]).length := by
 unfold Sy.classT
 simp only [List.length_append]
 omega
set_option maxRecDepth 100000 in
set_option maxHeartbeats 8000000 in
theorem class_any {w0 : World} (hE : PrEnv w0) (c : Tr.C) (hv : ∀ m ∈ c.methods, Tr.validSs m.body = true) (hd : ∀ m ∈ c.methods, Tr.S.deep.deeps m.body ≤ 900000 ∧ m.params.length ≤ 1000000) (fp : Option Addr) (FN fc : Nat) (mp : Option Addr) (MN mc : Nat) (hFN : c.fields.length = FN) (hMN : c.methods.length = MN)
 (hF : SlStr w0 (.slice fp FN fc) c.fields) (hM : SlM w0 (.slice mp MN mc) c.methods) (B b : Nat) (l : List UInt8) (w : World) (hI : PrIn w0 B b l ((0 : Nat) : Int) w) (hlen : l.length + (Sy.classT c).length ≤ 140737488355328) :
 Calls Tryz.prog 48 #[.pointer (some ⟨b, 0, none⟩), classV c (.slice fp FN fc) (.slice mp MN mc)] w (PrPost B b l (Sy.classT c) ((0 : Nat) : Int) w) := by
 have hlt := hI.lt
 obtain ⟨PB, hPB⟩ : ∃ q, w.heap.size = q := ⟨_, rfl⟩
 obtain ⟨w1, hw1⟩ : ∃ q, q = w.alloc (.cells #[.pointer (some ⟨b, 0, none⟩)] 81) := ⟨_, rfl⟩
 obtain ⟨w2, hw2⟩ : ∃ q, q = w1.alloc (.cells #[.string c.name, .bool c.actor, .slice fp FN fc, .slice mp MN mc] 49) := ⟨_, rfl⟩
 have hs1 : w1.heap.size = PB + 1 := by rw [hw1, ← hPB]; exact World.size_alloc _ _
 have hc1 : w1.heap[PB]? = some (.cells #[.pointer (some ⟨b, 0, none⟩)] 81 (0, 0)) := by rw [hw1, ← hPB]; exact (MapKept.heap_alloc w _).1
 have hc2 : w2.heap[w1.heap.size]? = some (.cells (clCells c.name c.actor (.slice fp FN fc) (.slice mp MN mc)) 49 (0, 0)) := by rw [hw2]; exact (MapKept.heap_alloc w1 _).1
 have hi2 : PrIn w0 B b l ((0 : Nat) : Int) w2 := by rw [hw2, hw1]; exact (hI.box _).box _
 have hk2 : Pk B b w w2 := by rw [hw2, hw1]; exact (hI.pk _).trans ((hI.box _).pk _)
 have hc1' : w2.heap[PB]? = some (.cells #[.pointer (some ⟨b, 0, none⟩)] 81 (0, 0)) := by
  have h1 := below_box w1 (.cells #[.string c.name, .bool c.actor, .slice fp FN fc, .slice mp MN mc] 49)
  rw [← hw2] at h1
  exact (h1.block _ (by omega)).trans hc1
 have HSZ2 : Hid (w2.heap.size = PB + 1 + 1) := by show _ = _; rw [hw2, World.size_alloc, hs1]
 rw [hs1] at hc2
 have hl3 := classT_len c
 have HW2 : Hid (w2 = (w.alloc (.cells #[.pointer (some ⟨b, 0, none⟩)] 81)).alloc (.cells #[.string c.name, .bool c.actor, .slice fp FN fc, .slice mp MN mc] 49)) := by show _ = _; rw [hw2, hw1]
 have HI2 := Lib.hid hi2
 have HK2 := Lib.hid hk2
 have HP := Lib.hid hc1'
 have HC := Lib.hid hc2
 have hpbb : PB ≠ b := by omega
 have hcbb : PB + 1 ≠ b := by omega
 have HIN : Hid (∀ W l', Pk B b w2 W → PrIn w0 B b l' ((1 : Nat) : Int) W → l'.length + ((c.fields.map Sy.fieldT).flatten.length + (c.methods.map Sy.methodT).flatten.length) ≤ 140737488355328 → Calls Tryz.prog 95 #[.pointer (some ⟨PB + 1, 0, none⟩), .pointer (some ⟨PB, 0, none⟩)] W (PrPost B b l' ((c.fields.map Sy.fieldT).flatten ++ (c.methods.map Sy.methodT).flatten) ((1 : Nat) : Int) W)) :=
  fun W l' hk hi hl => classIn_any hE c hv hd fp FN fc mp MN mc hFN hMN hF hM (PB + 1) PB B b l' W hi (hk.box HC.out hcbb (by decide)) (hk.box HP.out hpbb (by decide)) hpbb hcbb hl
 have HL := Lib.hid hlen
 have HL3 := Lib.hid hl3
 have HLT := Lib.hid hlt
 clear hI hFN hMN hF hM hd hv hE hw1 hw2 hs1 hc1 hc2 hi2 hk2 hc1' hlen hl3 hlt
 have x1 : w2.cell? ⟨PB + 1, 1, none⟩ = some (.bool c.actor) := cell_of_blkP HC.out (j := 1) (u := .bool c.actor) rfl
 have x0 : w2.cell? ⟨PB + 1, 0, none⟩ = some (.string c.name) := cell_of_blkP HC.out (j := 0) (u := .string c.name) rfl
 have zp := cell_of_blkP HP.out (j := 0) (u := .pointer (some ⟨b, 0, none⟩)) rfl
 have hsz : Hid (PB + 1 = w.heap.size + 1) := by show _ = _; rw [hPB]
 unfold classV
 cases hact : c.actor
 ·have hct : Sy.classT c = Sy.line 0 ([114, 101, 99, 111, 114, 100, 32] ++ c.name.data.toList ++ [32, 123]) ++ (((c.fields.map Sy.fieldT).flatten ++ (c.methods.map Sy.methodT).flatten) ++ Sy.line 0 [125]) := by unfold Sy.classT; rw [hact]; simp only [List.append_assoc]; rfl
  rw [hact] at x1 HL3 HW2
  have hl3 := HL3.out
  change _ = (Sy.line 0 ([114, 101, 99, 111, 114, 100, 32] ++ c.name.data.toList ++ [32, 123])).length + _ + _ at hl3
  have hl4 : l.length + ((Sy.line 0 ([114, 101, 99, 111, 114, 100, 32] ++ c.name.data.toList ++ [32, 123])).length + ((c.fields.map Sy.fieldT).flatten.length + (c.methods.map Sy.methodT).flatten.length) + (Sy.line 0 [125]).length) ≤ 140737488355328 := by have := HL.out; omega
  have HL4 := Lib.hid hl4
  have HCT := Lib.hid hct
  have kw := (word_any HI2.out [⟨#[114, 101, 99, 111, 114, 100, 32]⟩, c.name, ⟨#[32, 123]⟩] 3 #[.string ⟨#[114, 101, 99, 111, 114, 100, 32]⟩, .string c.name, .string ⟨#[32, 123]⟩] ([114, 101, 99, 111, 114, 100, 32] ++ c.name.data.toList ++ [32, 123]) rfl rfl (by simp [flatB]) (by decide) (by omega) (by decide))
  rw [HSZ2.out] at kw
  have KW := Lib.hid kw
  clear hct hl3 hl4 kw
  rw [HW2.out] at x0 x1 zp
  go_enter Tryz.func48, Tryz.ntmps48
  go_wp2_with fail
  rw [← HW2.out]
  refine KW.out.mono ?_
  rintro e' w3 ⟨rfl, hs, hk⟩
  have HI3 := Lib.hid (HI2.out.next hs hk)
  have HK3 := Lib.hid hk
  have z3 := cell_of_blkP (hk.box HP.out hpbb (by decide)) (j := 0) (u := .pointer (some ⟨b, 0, none⟩)) rfl
  clear hs hk x0 x1 zp KW
  have KB := Lib.hid (block_any HI3.out 95 #[.pointer (some ⟨PB + 1, 0, none⟩), .pointer (some ⟨PB, 0, none⟩)] ((c.fields.map Sy.fieldT).flatten ++ (c.methods.map Sy.methodT).flatten) (by decide) (enters_of Tryz.func95 (by kernel_rfl) rfl) (fun V hk hi => HIN.out V _ (HK3.out.trans hk) hi (by have := HL4.out; rw [List.length_append]; omega)))
  go_wp2_with fail
  refine KB.out.mono ?_
  rintro e' w4 ⟨rfl, hs, hk⟩
  have HI4 := Lib.hid (HI3.out.next hs hk)
  have HK4 := Lib.hid (HK3.out.trans hk)
  have z4 := cell_of_blkP (HK4.out.box HP.out hpbb (by decide)) (j := 0) (u := .pointer (some ⟨b, 0, none⟩)) rfl
  clear hs hk z3 KB
  have KW := Lib.hid (word_any HI4.out [⟨#[125]⟩] 1 #[.string ⟨#[125]⟩] [125] rfl rfl (by simp [flatB]) (by decide) (by have := HL4.out; simp only [List.length_append]; omega) (by decide))
  go_wp2_with fail
  refine KW.out.mono ?_
  rintro e' w5 ⟨rfl, hs, hk⟩
  have HI5 := Lib.hid (HI4.out.next hs hk)
  have HK5 := Lib.hid (HK2.out.trans (HK4.out.trans hk))
  clear hs hk z4 KW
  go_wp2_with fail
  go_end0
  exact ⟨rfl, by have h1 := HI5.out.st; rw [HCT.out]; simp only [List.append_assoc] at h1 ⊢; exact h1, HK5.out⟩
 ·have hct : Sy.classT c = Sy.line 0 ([97, 99, 116, 111, 114, 32] ++ c.name.data.toList ++ [32, 123]) ++ (((c.fields.map Sy.fieldT).flatten ++ (c.methods.map Sy.methodT).flatten) ++ Sy.line 0 [125]) := by unfold Sy.classT; rw [hact]; simp only [List.append_assoc]; rfl
  rw [hact] at x1 HL3 HW2
  have hl3 := HL3.out
  change _ = (Sy.line 0 ([97, 99, 116, 111, 114, 32] ++ c.name.data.toList ++ [32, 123])).length + _ + _ at hl3
  have hl4 : l.length + ((Sy.line 0 ([97, 99, 116, 111, 114, 32] ++ c.name.data.toList ++ [32, 123])).length + ((c.fields.map Sy.fieldT).flatten.length + (c.methods.map Sy.methodT).flatten.length) + (Sy.line 0 [125]).length) ≤ 140737488355328 := by have := HL.out; omega
  have HL4 := Lib.hid hl4
  have HCT := Lib.hid hct
  have kw := (word_any HI2.out [⟨#[97, 99, 116, 111, 114, 32]⟩, c.name, ⟨#[32, 123]⟩] 3 #[.string ⟨#[97, 99, 116, 111, 114, 32]⟩, .string c.name, .string ⟨#[32, 123]⟩] ([97, 99, 116, 111, 114, 32] ++ c.name.data.toList ++ [32, 123]) rfl rfl (by simp [flatB]) (by decide) (by omega) (by decide))
  rw [HSZ2.out] at kw
  have KW := Lib.hid kw
  clear hct hl3 hl4 kw
  rw [HW2.out] at x0 x1 zp
  go_enter Tryz.func48, Tryz.ntmps48
  go_wp2_with fail
  rw [← HW2.out]
  refine KW.out.mono ?_
  rintro e' w3 ⟨rfl, hs, hk⟩
  have HI3 := Lib.hid (HI2.out.next hs hk)
  have HK3 := Lib.hid hk
  have z3 := cell_of_blkP (hk.box HP.out hpbb (by decide)) (j := 0) (u := .pointer (some ⟨b, 0, none⟩)) rfl
  clear hs hk x0 x1 zp KW
  have KB := Lib.hid (block_any HI3.out 95 #[.pointer (some ⟨PB + 1, 0, none⟩), .pointer (some ⟨PB, 0, none⟩)] ((c.fields.map Sy.fieldT).flatten ++ (c.methods.map Sy.methodT).flatten) (by decide) (enters_of Tryz.func95 (by kernel_rfl) rfl) (fun V hk hi => HIN.out V _ (HK3.out.trans hk) hi (by have := HL4.out; rw [List.length_append]; omega)))
  go_wp2_with fail
  refine KB.out.mono ?_
  rintro e' w4 ⟨rfl, hs, hk⟩
  have HI4 := Lib.hid (HI3.out.next hs hk)
  have HK4 := Lib.hid (HK3.out.trans hk)
  have z4 := cell_of_blkP (HK4.out.box HP.out hpbb (by decide)) (j := 0) (u := .pointer (some ⟨b, 0, none⟩)) rfl
  clear hs hk z3 KB
  have KW := Lib.hid (word_any HI4.out [⟨#[125]⟩] 1 #[.string ⟨#[125]⟩] [125] rfl rfl (by simp [flatB]) (by decide) (by have := HL4.out; simp only [List.length_append]; omega) (by decide))
  go_wp2_with fail
  refine KW.out.mono ?_
  rintro e' w5 ⟨rfl, hs, hk⟩
  have HI5 := Lib.hid (HI4.out.next hs hk)
  have HK5 := Lib.hid (HK2.out.trans (HK4.out.trans hk))
  clear hs hk z4 KW
  go_wp2_with fail
  go_end0
  exact ⟨rfl, by have h1 := HI5.out.st; rw [HCT.out]; simp only [List.append_assoc] at h1 ⊢; exact h1, HK5.out⟩
theorem validP_bodies {cs : List Tr.C} (h : Tr.validP cs = true) : ∀ c ∈ cs, ∀ m ∈ c.methods, Tr.validSs m.body = true := by
 intro c hc m hm
 unfold Tr.validP at h
 have h1 := List.all_eq_true.1 h c hc
 unfold Tr.validC at h1
 rw [Bool.and_eq_true] at h1
 have h2 := List.all_eq_true.1 h1.2 m hm
 unfold Tr.validM at h2
 rw [Bool.and_eq_true] at h2
 exact h2.2
set_option maxRecDepth 100000 in
set_option maxHeartbeats 8000000 in
theorem program_any (v : Value) (cs : List Tr.C) (w : World) (hE : SyEnv w) (hfit : Tr.fitP cs) (hS : SlC w v cs) (hd : ∀ c ∈ cs, ∀ m ∈ c.methods, Tr.S.deep.deeps m.body ≤ 900000 ∧ m.params.length ≤ 1000000) (hlen : (Sy.progT cs).length ≤ 140737488355328) :
 Calls Tryz.prog 22 #[.agg #[v]] w fun r w' => r = .returned (.string ⟨(Sy.programText cs).toArray⟩) ∧ Below w.heap.size w w' := by
 obtain ⟨p, c, rfl⟩ := hS.form
 have hn6 : cs.length ≤ 9223372036854775807 := by
  have := hS.len
  unfold maxLen at this
  exact this
 obtain ⟨N, hN⟩ : ∃ q, cs.length = q := ⟨_, rfl⟩
 rw [hN] at hS hn6 ⊢
 have hB := below_box w (.cells #[.slice p N c] 25)
 have hcv := (MapKept.heap_alloc w (.cells #[.slice p N c] 25)).1
 obtain ⟨w1, hw1⟩ : ∃ q, q = w.alloc (.cells #[.slice p N c] 25) := ⟨_, rfl⟩
 rw [← hw1] at hB hcv
 have KV := Lib.hid (valid_any (.slice p N c) cs w1 (hE.syn.keep hB) hfit (hS.keep hB))
 have HW1 := Lib.hid hw1
 have HB1 := Lib.hid hB
 have HC1 := Lib.hid hcv
 have HE := Lib.hid hE
 have HS := Lib.hid hS
 have HN := Lib.hid hN
 have HLEN := Lib.hid hlen
 have HD := Lib.hid hd
 have e0 := cell_of_blkP HC1.out (j := 0) (u := .slice p N c) rfl
 rw [hw1] at e0
 clear hE hfit hS hlen hN hw1 hB hcv hd
 cases hv : Tr.validP cs
 ·rw [hv] at KV
  have HV := Lib.hid hv
  clear hv
  go_enter Tryz.func22, Tryz.ntmps22
  go_wp2_with fail
  rw [← HW1.out]
  refine KV.out.mono ?_
  rintro e' w2 ⟨rfl, hb2⟩
  have HB2 := Lib.hid (below_next HB1.out hb2)
  clear hb2 e0
  go_wp2_with fail
  go_ret
  exact ⟨by unfold Sy.programText; rw [HV.out]; rfl, HB2.out⟩
 ·rw [hv] at KV
  have HV := Lib.hid hv
  clear hv
  go_enter Tryz.func22, Tryz.ntmps22
  go_wp2_with fail
  rw [← HW1.out]
  refine KV.out.mono ?_
  rintro e' w2 ⟨rfl, hb2⟩
  have HB2 := Lib.hid (below_next HB1.out hb2)
  have HC2 := Lib.hid ((hb2.block _ (Array.getElem?_eq_some_iff.1 HC1.out).1).trans HC1.out)
  clear hb2 e0 HW1
  obtain ⟨w3, hw3⟩ : ∃ q, q = w2.alloc (.cells #[.pointer none, .slice none 0 0, .int .i64 0] 87) := ⟨_, rfl⟩
  have hb3 := below_box w2 (.cells #[.pointer none, .slice none 0 0, .int .i64 0] 87)
  obtain ⟨bx, hbx⟩ : ∃ q, w2.heap.size = q := ⟨_, rfl⟩
  have hi3 : PrIn w2 bx bx [] ((0 : Nat) : Int) w3 := by
   rw [hw3, ← hbx]
   exact ⟨.inl ⟨Nat.le_refl _, _, (MapKept.heap_alloc w2 _).1, World.ownsRow_nil _ _ _ _, fun _ => rfl⟩, hb3, Nat.le_refl _, hb3.size⟩
  rw [← hw3] at hb3
  have hc3 := (hb3.block _ (Array.getElem?_eq_some_iff.1 HC2.out).1).trans HC2.out
  have e0 := cell_of_blkP hc3 (j := 0) (u := .slice p N c) rfl
  rw [hw3] at e0
  have HW3 := Lib.hid hw3
  have HI3 := Lib.hid hi3
  have HS2 := Lib.hid (HS.out.keep HB2.out)
  have HE2 := Lib.hid (HE.out.pr.keep HB2.out)
  have HBX := Lib.hid hbx
  clear hw3 hb3 hi3 hc3
  go_wp2_with fail
  rw [← HW3.out]
  clear e0 HW3
  go_loopg [5, 14] N (fun g s5 s14 wr => ∃ j : Nat, s14 = .int .i64 j ∧ j ≤ N ∧ g = N - j ∧ Hid (PrIn w2 bx bx (((cs.take j).map Sy.classT).flatten) ((0 : Nat) : Int) wr))
  case atStart => exact ⟨0, rfl, Nat.zero_le _, rfl, HI3⟩
  case round =>
   obtain ⟨j, rfl, hj, rfl, HST⟩ := hrel
   by_cases hlt : j < N
   ·obtain ⟨s, hs⟩ : ∃ s, cs[j]? = some s := ⟨_, List.getElem?_eq_getElem (by rw [HN.out]; exact hlt)⟩
    obtain ⟨b', o', vx, vy, rfl, _, hc, _, hfx, hmx⟩ := HS2.out.get hs
    obtain ⟨fp, fc, rfl⟩ := hfx.form
    obtain ⟨mp, mc, rfl⟩ := hmx.form
    obtain ⟨FN, hFN⟩ : ∃ q, s.fields.length = q := ⟨_, rfl⟩
    obtain ⟨MN, hMN⟩ : ∃ q, s.methods.length = q := ⟨_, rfl⟩
    rw [hFN] at hfx hc
    rw [hMN] at hmx hc
    obtain ⟨x0, x1, x2, x3⟩ := hc
    have x0 := cell_keep' HST.out.base x0
    have x1 := cell_keep' HST.out.base x1
    have x2 := cell_keep' HST.out.base x2
    have x3 := cell_keep' HST.out.base x3
    have hss := List.mem_of_getElem? hs
    have htk := fl_take Sy.classT hs
    have hle := fl_le Sy.classT cs (j + 1)
    rw [htk, List.length_append] at hle
    have hi4 := HST.out.box (.cells #[.string s.name, .bool s.actor, .slice fp FN fc, .slice mp MN mc] 49)
    obtain ⟨w4, hw4⟩ : ∃ q, q = wr.alloc (.cells #[.string s.name, .bool s.actor, .slice fp FN fc, .slice mp MN mc] 49) := ⟨_, rfl⟩
    rw [← hw4] at hi4
    have hcall := class_any HE2.out s (validP_bodies HV.out s hss) (HD.out s hss) fp FN fc mp MN mc hFN hMN hfx hmx bx bx _ w4 hi4 (by have := HLEN.out; unfold Sy.progT at this; omega)
    unfold classV at hcall
    have HCALL := Lib.hid hcall
    have HI4 := Lib.hid hi4
    have HW4 := Lib.hid hw4
    have HTK := Lib.hid htk
    have b3 : (j : Int) < (N : Int) := by omega
    have hl0 := cell_lt' x0
    clear hs hss hfx hmx hFN hMN htk hle hi4 hw4 hcall
    go_wp2_with fail
    rw [← HW4.out]
    refine HCALL.out.mono ?_
    rintro e' w5 ⟨rfl, hs5, hk5⟩
    have HI5 := Lib.hid (HI4.out.next hs5 hk5)
    clear hs5 hk5 x0 x1 x2 x3 hl0 HW4
    go_wp2_with fail
    go_roundg (N - (j + 1))
    case measure => omega
    case rel =>
     refine ⟨j + 1, by go_num, by omega, rfl, ?_⟩
     rw [HTK.out]
     exact HI5
   ·obtain rfl : j = N := by omega
    have hfull : cs.take j = cs := List.take_of_length_le (by rw [HN.out]; exact Nat.le_refl _)
    rw [hfull] at HST
    clear hfull
    have KS := Lib.hid (prString_any wr HST.out.st)
    have hbz : Below w.heap.size w wr := HB2.out.trans (HST.out.base.mono HB2.out.size)
    have HBZ := Lib.hid hbz
    have hsz : w.heap.size ≤ wr.heap.size := hbz.size
    have HSZ := Lib.hid hsz
    clear hbz hsz
    go_wp2_with fail
    refine KS.out.mono ?_
    rintro e' w5 ⟨rfl, hb5⟩
    have HB5 := Lib.hid (HBZ.out.trans (hb5.mono (by have := HB2.out.size; have := HBX.out; have := HSZ.out; omega)))
    clear hb5
    go_wp2_with fail
    go_ret
    exact ⟨by unfold Sy.programText Sy.progT; rw [HV.out]; rfl, HB5.out⟩
end Go.Proofs.YtdckddkalgnlpaaGreatDoor
namespace Go.Proofs.YtdckddkalgnlpaaGreatDoor
open Go.RowKit Go.Maps
theorem sum_take {α : Type} (g : α → Nat) {ls : List α} {j : Nat} {s : α} (h : ls[j]? = some s) : ((ls.take (j + 1)).map g).sum = ((ls.take j).map g).sum + g s := by
 rw [List.take_add_one, h]; simp
theorem sum_le {α : Type} (g : α → Nat) (ls : List α) (j : Nat) : ((ls.take j).map g).sum ≤ (ls.map g).sum := by
 have h : (ls.map g).sum = ((ls.take j).map g).sum + ((ls.drop j).map g).sum := by rw [← List.sum_append, ← List.map_append, List.take_append_drop]
 rw [h]; omega
namespace Sy
def argsZ (e : Tr.E) : Nat := sizeEs e.args
theorem sizeE_args (e : Tr.E) : sizeE e = 1 + argsZ e := by cases e; rw [sizeE]; rfl
theorem sizeEs_sum : ∀ ls : List Tr.E, sizeEs ls = ls.length + (ls.map argsZ).sum
 | [] => by rw [sizeEs]; rfl
 | e :: r => by rw [sizeEs, sizeEs_sum r, sizeE_args, List.length_cons, List.map_cons, List.sum_cons]; omega
theorem sizeEs_sumE : ∀ ls : List Tr.E, sizeEs ls = (ls.map sizeE).sum
 | [] => by rw [sizeEs]; rfl
 | e :: r => by rw [sizeEs, sizeEs_sumE r, List.map_cons, List.sum_cons]
end Sy
theorem E_deep_eq (x : Tr.E) : x.deep = 1 + Tr.E.deep.deeps x.args := by cases x; rw [Tr.E.deep]; rfl
set_option maxRecDepth 100000 in
set_option maxHeartbeats 4000000 in
theorem exprSize_any : ∀ (d : Nat) (ls : List Tr.E) (p : Option Addr) (N c : Nat) (w : World), Tr.E.deep.deeps ls < d → ls.length = N → SlE w (.slice p N c) ls → Sy.sizeEs ls ≤ 1000000000 →
 Calls Tryz.prog 112 #[.slice p N c] w fun r w' => r = .returned (.int .i64 (Sy.sizeEs ls : Nat)) ∧ Below w.heap.size w w' := by
 intro d
 induction d with
 | zero => intro ls p N c w hd; omega
 | succ d ih =>
   intro ls p N c w hd hN hS hz
   have hn6 : N ≤ 9223372036854775807 := by
    have := hS.len
    rw [hN] at this
    unfold maxLen at this
    exact this
   have hsum := Sy.sizeEs_sum ls
   rw [hN] at hsum
   have HS := Lib.hid hS
   have HN := Lib.hid hN
   have HD := Lib.hid hd
   have HIH := Lib.hid ih
   have HZ := Lib.hid hz
   have HSUM := Lib.hid hsum
   clear ih hS hN hd hz hsum
   go_enter Tryz.func112, Tryz.ntmps112
   go_wp2_with fail
   go_loopg [3, 5, 10] N (fun g s3 s5 s10 wr => ∃ (j M : Nat), s10 = .int .i64 j ∧ j ≤ N ∧ g = N - j ∧ s3 = .int .i64 M ∧ M = N + ((ls.take j).map Sy.argsZ).sum ∧ Hid (Below w.heap.size w wr))
   case atStart => exact ⟨0, N, rfl, Nat.zero_le _, rfl, rfl, rfl, Below.refl _ _⟩
   case round =>
    obtain ⟨j, M, rfl, hj, rfl, rfl, hM, HB⟩ := hrel
    by_cases hlt : j < N
    ·obtain ⟨x, hx⟩ : ∃ x, ls[j]? = some x := ⟨_, List.getElem?_eq_getElem (by rw [HN.out]; exact hlt)⟩
     obtain ⟨b', o', aa, rfl, _, hc, hbd, hsl⟩ := HS.out.get hx
     obtain ⟨pa, ca, rfl, _⟩ := hsl.form
     obtain ⟨AN, hAN⟩ : ∃ q, x.args.length = q := ⟨_, rfl⟩
     rw [hAN] at hsl hc
     obtain ⟨y0, y1, y2, y3, y4, y5⟩ := hc.keep HB.out
     have htk := sum_take Sy.argsZ hx
     have hle := sum_le Sy.argsZ ls (j + 1)
     rw [htk] at hle
     obtain ⟨Z, hZ⟩ : ∃ q, Sy.argsZ x = q := ⟨_, rfl⟩
     rw [hZ] at htk hle
     have hbx := HB.out.alloc HB.out.size (.cells #[.int .i64 x.kind, .int .i64 x.op, .int .i64 x.int, .string x.name, .bool x.at_, .slice pa AN ca] 33)
     obtain ⟨w4, hw4⟩ : ∃ q, q = wr.alloc (.cells #[.int .i64 x.kind, .int .i64 x.op, .int .i64 x.int, .string x.name, .bool x.at_, .slice pa AN ca] 33) := ⟨_, rfl⟩
     rw [← hw4] at hbx
     have hzz := HSUM.out
     have hzl := HZ.out
     have hdx := Tr.E.deeps_get ls j x hx
     have hde := E_deep_eq x
     have hcall := HIH.out x.args pa AN ca w4 (by have := HD.out; omega) hAN (hsl.keep hbx) (by show Sy.argsZ x ≤ _; rw [hZ]; omega)
     rw [show Sy.sizeEs x.args = Z from hZ] at hcall
     have HCALL := Lib.hid hcall
     have HBX := Lib.hid hbx
     have HW4 := Lib.hid hw4
     have HTK := Lib.hid htk
     have b3 : (j : Int) < (N : Int) := by omega
     have bw : IntKind.i64.wrap ((M : Int) + (Z : Int)) = (M : Int) + (Z : Int) := IntWalk.i64_in _ (by omega)
     have HM := Lib.hid hM
     have hl0 := cell_lt' y0
     clear hx hc hbd hsl hAN htk hle hbx hw4 hzz hzl hdx hde hcall hZ hM
     go_wp2_with fail
     rw [← HW4.out]
     refine HCALL.out.mono ?_
     rintro e' w5 ⟨rfl, hb5⟩
     have HB5 := Lib.hid (HBX.out.trans (hb5.mono HBX.out.size))
     clear hb5 y0 y1 y2 y3 y4 y5 hl0 HW4
     go_wp2_with fail
     go_roundg (N - (j + 1))
     case measure => omega
     case rel => exact ⟨j + 1, M + Z, by go_num, by omega, rfl, by go_num, by have h1 := HTK.out; have h2 := HM.out; omega, HB5⟩
    ·obtain rfl : j = N := by omega
     have hfull : ls.take j = ls := List.take_of_length_le (by rw [HN.out]; exact Nat.le_refl _)
     rw [hfull, ← HSUM.out] at hM
     subst hM
     clear hfull
     go_wp2_with fail
     go_ret
     exact ⟨rfl, HB.out⟩
end Go.Proofs.YtdckddkalgnlpaaGreatDoor
namespace Go.Proofs.YtdckddkalgnlpaaGreatDoor
open Go.RowKit Go.Maps
namespace Sy
def restZ (s : Tr.S) : Nat := sizeEs s.exprs + sizeSs s.body + sizeSs s.els
theorem sizeS_rest (s : Tr.S) : sizeS s = 1 + restZ s := by
 obtain ⟨k, nm, x, b, l⟩ := s
 rw [sizeS]
 show _ = 1 + (sizeEs x + sizeSs b + sizeSs l)
 omega
theorem sizeSs_sum : ∀ ls : List Tr.S, sizeSs ls = ls.length + (ls.map restZ).sum
 | [] => by rw [sizeSs]; rfl
 | e :: r => by rw [sizeSs, sizeSs_sum r, sizeS_rest, List.length_cons, List.map_cons, List.sum_cons]; omega
end Sy
theorem S_deep_eq (x : Tr.S) : x.deep = 1 + max (Tr.S.deep.deeps x.body) (Tr.S.deep.deeps x.els) := by cases x; rw [Tr.S.deep]; rfl
theorem bl_of {w0 w : World} {a b c : Prop} (h : a ∧ b ∧ c ∧ Hid (Below w0.heap.size w0 w)) : Below w0.heap.size w0 w := h.2.2.2.out
theorem sz_keep {w0 w w' : World} {B : Nat} {x y z : Value} (h : w.cell? ⟨B, 2, none⟩ = some x ∧ w.cell? ⟨B, 3, none⟩ = some y ∧ w.cell? ⟨B, 4, none⟩ = some z ∧ Hid (Below w0.heap.size w0 w)) (hb : Below w.heap.size w w') :
 w'.cell? ⟨B, 2, none⟩ = some x ∧ w'.cell? ⟨B, 3, none⟩ = some y ∧ w'.cell? ⟨B, 4, none⟩ = some z ∧ Hid (Below w0.heap.size w0 w') :=
 ⟨cell_keep' hb h.1, cell_keep' hb h.2.1, cell_keep' hb h.2.2.1, h.2.2.2.out.trans (hb.mono h.2.2.2.out.size)⟩
set_option maxRecDepth 100000 in
set_option maxHeartbeats 8000000 in
theorem stmtSize_any : ∀ (d : Nat) (ls : List Tr.S) (p : Option Addr) (N c : Nat) (w : World), Tr.S.deep.deeps ls < d → ls.length = N → SlS w (.slice p N c) ls → Sy.sizeSs ls ≤ 1000000000 →
 Calls Tryz.prog 61 #[.slice p N c] w fun r w' => r = .returned (.int .i64 (Sy.sizeSs ls : Nat)) ∧ Below w.heap.size w w' := by
 intro d
 induction d with
 | zero => intro ls p N c w hd; omega
 | succ d ih =>
   intro ls p N c w hd hN hS hz
   have hn6 : N ≤ 9223372036854775807 := by
    have := hS.len
    rw [hN] at this
    unfold maxLen at this
    exact this
   have hsum := Sy.sizeSs_sum ls
   rw [hN] at hsum
   have HS := Lib.hid hS
   have HN := Lib.hid hN
   have HD := Lib.hid hd
   have HIH := Lib.hid ih
   have HZ := Lib.hid hz
   have HSUM := Lib.hid hsum
   clear ih hS hN hd hz hsum
   go_enter Tryz.func61, Tryz.ntmps61
   go_wp2_with fail
   go_loopg [3, 5, 10] N (fun g s3 s5 s10 wr => ∃ (j M : Nat), s10 = .int .i64 j ∧ j ≤ N ∧ g = N - j ∧ s3 = .int .i64 M ∧ M = N + ((ls.take j).map Sy.restZ).sum ∧ Hid (Below w.heap.size w wr))
   case atStart => exact ⟨0, N, rfl, Nat.zero_le _, rfl, rfl, rfl, Below.refl _ _⟩
   case round =>
    obtain ⟨j, M, rfl, hj, rfl, rfl, hM, HB⟩ := hrel
    by_cases hlt : j < N
    ·obtain ⟨s, hx⟩ : ∃ x, ls[j]? = some x := ⟨_, List.getElem?_eq_getElem (by rw [HN.out]; exact hlt)⟩
     obtain ⟨b', o', vx, vy, vz, rfl, _, hc, hbd, hsx, hsy, hsz⟩ := HS.out.get hx
     obtain ⟨px, cx, rfl, _⟩ := hsx.form
     obtain ⟨py, cy, rfl, _⟩ := hsy.form
     obtain ⟨pz, cz, rfl, _⟩ := hsz.form
     obtain ⟨XN, hXN⟩ : ∃ q, s.exprs.length = q := ⟨_, rfl⟩
     obtain ⟨YN, hYN⟩ : ∃ q, s.body.length = q := ⟨_, rfl⟩
     obtain ⟨ZN, hZN⟩ : ∃ q, s.els.length = q := ⟨_, rfl⟩
     rw [hXN] at hsx hc
     rw [hYN] at hsy hc
     rw [hZN] at hsz hc
     obtain ⟨y0, y1, y2, y3, y4⟩ := hc.keep HB.out
     have htk := sum_take Sy.restZ hx
     have hle := sum_le Sy.restZ ls (j + 1)
     rw [htk] at hle
     obtain ⟨X, hX⟩ : ∃ q, Sy.sizeEs s.exprs = q := ⟨_, rfl⟩
     obtain ⟨Y, hY⟩ : ∃ q, Sy.sizeSs s.body = q := ⟨_, rfl⟩
     obtain ⟨Z, hZ⟩ : ∃ q, Sy.sizeSs s.els = q := ⟨_, rfl⟩
     have hr : Sy.restZ s = X + Y + Z := by unfold Sy.restZ; rw [hX, hY, hZ]
     rw [hr] at htk hle
     have hbx := HB.out.alloc HB.out.size (.cells #[.int .i64 s.kind, .string s.name, .slice px XN cx, .slice py YN cy, .slice pz ZN cz] 94)
     have hcv := (MapKept.heap_alloc wr (.cells #[.int .i64 s.kind, .string s.name, .slice px XN cx, .slice py YN cy, .slice pz ZN cz] 94)).1
     obtain ⟨BX, hBX⟩ : ∃ q, wr.heap.size = q := ⟨_, rfl⟩
     rw [hBX] at hcv
     have hzz := HSUM.out
     have hzl := HZ.out
     have hdx := Tr.S.deeps_get ls j s hx
     have hde := S_deep_eq s
     have hd2 := HD.out
     have KX : Hid (∀ W, Below w.heap.size w W → Calls Tryz.prog 112 #[.slice px XN cx] W fun r w' => r = .returned (.int .i64 X) ∧ Below W.heap.size W w') := by
      intro W hb
      have := exprSize_any _ s.exprs px XN cx W (Nat.lt_succ_self _) hXN (hsx.keep hb) (by rw [hX]; omega)
      rw [hX] at this
      exact this
     have KY : Hid (∀ W, Below w.heap.size w W → Calls Tryz.prog 61 #[.slice py YN cy] W fun r w' => r = .returned (.int .i64 Y) ∧ Below W.heap.size W w') := by
      intro W hb
      have := HIH.out s.body py YN cy W (by omega) hYN (hsy.keep hb) (by rw [hY]; omega)
      rw [hY] at this
      exact this
     have KZ : Hid (∀ W, Below w.heap.size w W → Calls Tryz.prog 61 #[.slice pz ZN cz] W fun r w' => r = .returned (.int .i64 Z) ∧ Below W.heap.size W w') := by
      intro W hb
      have := HIH.out s.els pz ZN cz W (by omega) hZN (hsz.keep hb) (by rw [hZ]; omega)
      rw [hZ] at this
      exact this
     have HTK := Lib.hid htk
     have b3 : (j : Int) < (N : Int) := by omega
     have bw1 : IntKind.i64.wrap ((X : Int) + (Y : Int)) = (X : Int) + (Y : Int) := IntWalk.i64_in _ (by omega)
     have bw2 : IntKind.i64.wrap ((X : Int) + (Y : Int) + (Z : Int)) = (X : Int) + (Y : Int) + (Z : Int) := IntWalk.i64_in _ (by omega)
     have bw3 : IntKind.i64.wrap ((M : Int) + ((X : Int) + (Y : Int) + (Z : Int))) = (M : Int) + ((X : Int) + (Y : Int) + (Z : Int)) := IntWalk.i64_in _ (by omega)
     have HM := Lib.hid hM
     have hl0 := cell_lt' y0
     clear hx hc hbd hsx hsy hsz hXN hYN hZN htk hle hzz hzl hdx hde hd2 hX hY hZ hr hM
     go_upto_region 5 with fail
     obtain ⟨w4, hw4⟩ : ∃ q, q = wr.alloc (.cells #[.int .i64 s.kind, .string s.name, .slice px XN cx, .slice py YN cy, .slice pz ZN cz] 94) := ⟨_, rfl⟩
     rw [← hw4] at hbx hcv ⊢
     try rw [hBX]
     have z2 := cell_of_blkP hcv (j := 2) (u := .slice px XN cx) rfl
     have z3 := cell_of_blkP hcv (j := 3) (u := .slice py YN cy) rfl
     have z4 := cell_of_blkP hcv (j := 4) (u := .slice pz ZN cz) rfl
     have HB4 := Lib.hid hbx
     have HBD : Hid (Below w.heap.size w w4.drew) := hbx.drew
     clear hbx hcv hw4 y0 y1 y2 y3 y4 hl0 hBX
     go_region_held3 (fun w' => w'.cell? ⟨BX, 2, none⟩ = some (.slice px XN cx) ∧ w'.cell? ⟨BX, 3, none⟩ = some (.slice py YN cy) ∧ w'.cell? ⟨BX, 4, none⟩ = some (.slice pz ZN cz) ∧ Hid (Below w.heap.size w w')) (first | exact sz_keep (by assumption) hb | exact ⟨z2, z3, z4, HBD⟩ | go_keep) (first | (go_at_call 112; refine (KX.out _ (bl_of (by assumption))).mono ?_; rintro e w' ⟨rfl, hb⟩) | (go_at_call 61; (first | (with_reducible refine (KY.out _ (bl_of (by assumption))).mono ?_) | (with_reducible refine (KZ.out _ (bl_of (by assumption))).mono ?_)); rintro e w' ⟨rfl, hb⟩))
     go_wp2_with fail
     go_roundg (N - (j + 1))
     case measure => omega
     case rel =>
      refine ⟨j + 1, M + (X + Y + Z), by go_num, by omega, rfl, by go_num, by have h1 := HTK.out; have h2 := HM.out; omega, ?_⟩
      have h9 := bl_of (by assumption)
      exact Lib.hid h9
    ·obtain rfl : j = N := by omega
     have hfull : ls.take j = ls := List.take_of_length_le (by rw [HN.out]; exact Nat.le_refl _)
     rw [hfull, ← HSUM.out] at hM
     subst hM
     clear hfull
     go_wp2_with fail
     go_ret
     exact ⟨rfl, HB.out⟩
end Go.Proofs.YtdckddkalgnlpaaGreatDoor
namespace Go.Proofs.YtdckddkalgnlpaaGreatDoor
open Go.RowKit Go.Maps
namespace Sy
def restM (m : Tr.M) : Nat := m.params.length + sizeSs m.body
def restC (c : Tr.C) : Nat := c.fields.length + c.methods.length + (c.methods.map restM).sum
theorem sizeMs_sum : ∀ ms : List Tr.M, (ms.map sizeM).sum = ms.length + (ms.map restM).sum
 | [] => rfl
 | m :: r => by
   rw [List.map_cons, List.map_cons, List.sum_cons, List.sum_cons, sizeMs_sum r, List.length_cons, sizeM, restM]
   omega
theorem sizeC_rest (c : Tr.C) : sizeC c = 1 + restC c := by rw [sizeC, restC, sizeMs_sum]; omega
theorem sizeP_sum : ∀ cs : List Tr.C, sizeP cs = cs.length + (cs.map restC).sum
 | [] => rfl
 | c :: r => by
   have h := sizeP_sum r
   unfold sizeP at h ⊢
   rw [List.map_cons, List.map_cons, List.sum_cons, List.sum_cons, h, List.length_cons, sizeC_rest]
   omega
end Sy
theorem bl2_of {w0 w : World} {a b : Prop} (h : a ∧ b ∧ Hid (Below w0.heap.size w0 w)) : Below w0.heap.size w0 w := h.2.2.out
theorem sz2_keep {w0 w w' : World} {B : Nat} {x y : Value} (h : w.cell? ⟨B, 1, none⟩ = some x ∧ w.cell? ⟨B, 2, none⟩ = some y ∧ Hid (Below w0.heap.size w0 w)) (hb : Below w.heap.size w w') :
 w'.cell? ⟨B, 1, none⟩ = some x ∧ w'.cell? ⟨B, 2, none⟩ = some y ∧ Hid (Below w0.heap.size w0 w') :=
 ⟨cell_keep' hb h.1, cell_keep' hb h.2.1, h.2.2.out.trans (hb.mono h.2.2.out.size)⟩
set_option maxRecDepth 100000 in
set_option maxHeartbeats 8000000 in
theorem size_any (v : Value) (cs : List Tr.C) (w : World) (hS : SlC w v cs) (hz : Sy.sizeP cs ≤ 1000000000) :
 Calls Tryz.prog 26 #[.agg #[v]] w fun r w' => r = .returned (.int .i64 (Sy.sizeP cs : Nat)) ∧ Below w.heap.size w w' := by
 obtain ⟨p, c, rfl⟩ := hS.form
 have hsum := Sy.sizeP_sum cs
 obtain ⟨N, hN⟩ : ∃ q, cs.length = q := ⟨_, rfl⟩
 rw [hN] at hS hsum ⊢
 have hn6 : N ≤ 1000000000 := by omega
 have hB := below_box w (.cells #[.slice p N c] 25)
 have hcv := (MapKept.heap_alloc w (.cells #[.slice p N c] 25)).1
 obtain ⟨w1, hw1⟩ : ∃ q, q = w.alloc (.cells #[.slice p N c] 25) := ⟨_, rfl⟩
 rw [← hw1] at hB hcv
 have HW1 := Lib.hid hw1
 have HB1 := Lib.hid hB
 have HS := Lib.hid hS
 have HN := Lib.hid hN
 have HZ := Lib.hid hz
 have HSUM := Lib.hid hsum
 have e0 := cell_of_blkP hcv (j := 0) (u := .slice p N c) rfl
 rw [hw1] at e0
 clear hS hN hz hsum hw1 hB hcv
 go_enter Tryz.func26, Tryz.ntmps26
 go_wp2_with fail
 rw [← HW1.out]
 clear e0 HW1
 go_loopg [3, 5, 7, 14] N (fun g s3 s5 s7 s14 wr => ∃ (j M : Nat), s14 = .int .i64 j ∧ j ≤ N ∧ g = N - j ∧ s3 = .int .i64 M ∧ M = N + ((cs.take j).map Sy.restC).sum ∧ Hid (Below w.heap.size w wr))
 case atStart => exact ⟨0, N, rfl, Nat.zero_le _, rfl, rfl, rfl, HB1⟩
 case round =>
  obtain ⟨j, M, rfl, hj, rfl, rfl, hM, HB⟩ := hrel
  by_cases hlt : j < N
  ·obtain ⟨s, hs⟩ : ∃ s, cs[j]? = some s := ⟨_, List.getElem?_eq_getElem (by rw [HN.out]; exact hlt)⟩
   obtain ⟨b', o', vx, vy, rfl, _, hc, _, hfx, hmx⟩ := HS.out.get hs
   obtain ⟨fp, fc, rfl⟩ := hfx.form
   obtain ⟨mp, mc, rfl⟩ := hmx.form
   obtain ⟨FN, hFN⟩ : ∃ q, s.fields.length = q := ⟨_, rfl⟩
   obtain ⟨MN, hMN⟩ : ∃ q, s.methods.length = q := ⟨_, rfl⟩
   rw [hFN] at hfx hc
   rw [hMN] at hmx hc
   obtain ⟨x0, x1, x2, x3⟩ := hc
   have x0 := cell_keep' HB.out x0
   have x1 := cell_keep' HB.out x1
   have x2 := cell_keep' HB.out x2
   have x3 := cell_keep' HB.out x3
   have htk := sum_take Sy.restC hs
   have hle := sum_le Sy.restC cs (j + 1)
   rw [htk] at hle
   obtain ⟨R, hR⟩ : ∃ q, (s.methods.map Sy.restM).sum = q := ⟨_, rfl⟩
   have hr : Sy.restC s = FN + MN + R := by unfold Sy.restC; rw [hFN, hMN, hR]
   rw [hr] at htk hle
   have hbx := HB.out.alloc HB.out.size (.cells #[.string s.name, .bool s.actor, .slice fp FN fc, .slice mp MN mc] 49)
   have hzz := HSUM.out
   have hzl := HZ.out
   have HTOT : Hid (M + (FN + MN) + R ≤ 1000000000) := by show _ ≤ _; omega
   have hmn6 : MN ≤ 1000000000 := by have := HTOT.out; omega
   have HTK := Lib.hid htk
   have b3 : (j : Int) < (N : Int) := by omega
   have bw1 : IntKind.i64.wrap ((FN : Int) + (MN : Int)) = (FN : Int) + (MN : Int) := IntWalk.i64_in _ (by omega)
   have bw2 : IntKind.i64.wrap ((M : Int) + ((FN : Int) + (MN : Int))) = (M : Int) + ((FN : Int) + (MN : Int)) := IntWalk.i64_in _ (by omega)
   have HM := Lib.hid hM
   have HMX := Lib.hid hmx
   have HMN := Lib.hid hMN
   have HR := Lib.hid hR
   have hl0 := cell_lt' x0
   clear hs hfx hmx hFN hMN htk hle hzz hzl hR hr hM
   go_wp2_with fail
   obtain ⟨w4, hw4⟩ : ∃ q, q = wr.alloc (.cells #[.string s.name, .bool s.actor, .slice fp FN fc, .slice mp MN mc] 49) := ⟨_, rfl⟩
   rw [← hw4] at hbx ⊢
   have HB4 := Lib.hid hbx
   clear hbx hw4 x0 x1 x2 x3 hl0 bw1 bw2
   obtain ⟨M1, hM1⟩ : ∃ q : Nat, q = M + (FN + MN) := ⟨_, rfl⟩
   have hM2 : (M : Int) + ((FN : Int) + (MN : Int)) = (M1 : Int) := by omega
   rw [hM2]
   have HM1 := Lib.hid hM1
   clear hM1 hM2
   go_loopg [3, 7, 30] MN (fun g s3 s7 s30 wq => ∃ (i K : Nat), s30 = .int .i64 i ∧ i ≤ MN ∧ g = MN - i ∧ s3 = .int .i64 K ∧ K = M1 + ((s.methods.take i).map Sy.restM).sum ∧ Hid (Below w.heap.size w wq))
   case atStart => exact ⟨0, M1, rfl, Nat.zero_le _, rfl, rfl, rfl, HB4⟩
   case round =>
    obtain ⟨i, K, rfl, hi, rfl, rfl, hK, HBQ⟩ := hrel
    by_cases hlt2 : i < MN
    ·obtain ⟨m, hm⟩ : ∃ m, s.methods[i]? = some m := ⟨_, List.getElem?_eq_getElem (by rw [HMN.out]; exact hlt2)⟩
     obtain ⟨b2, o2, vx, vy, rfl, _, hc, _, hpx, hsy⟩ := HMX.out.get hm
     obtain ⟨px, cx, rfl⟩ := hpx.form
     obtain ⟨py, cy, rfl, _⟩ := hsy.form
     obtain ⟨XN, hXN⟩ : ∃ q, m.params.length = q := ⟨_, rfl⟩
     obtain ⟨YN, hYN⟩ : ∃ q, m.body.length = q := ⟨_, rfl⟩
     rw [hXN] at hpx hc
     rw [hYN] at hsy hc
     obtain ⟨x0, x1, x2⟩ := CellsM.keep hc HBQ.out
     have htk := sum_take Sy.restM hm
     have hle := sum_le Sy.restM s.methods (i + 1)
     rw [htk] at hle
     obtain ⟨Y, hY⟩ : ∃ q, Sy.sizeSs m.body = q := ⟨_, rfl⟩
     have hr : Sy.restM m = XN + Y := by unfold Sy.restM; rw [hXN, hY]
     rw [hr] at htk hle
     have hbx := HBQ.out.alloc HBQ.out.size (.cells #[.string m.name, .slice px XN cx, .slice py YN cy] 64)
     have hcv := (MapKept.heap_alloc wr (.cells #[.string m.name, .slice px XN cx, .slice py YN cy] 64)).1
     obtain ⟨BX, hBX⟩ : ∃ q, wr.heap.size = q := ⟨_, rfl⟩
     rw [hBX] at hcv
     have hz1 := HTOT.out
     have hz2 := HR.out
     have hz3 := HM1.out
     have KY : Hid (∀ W, Below w.heap.size w W → Calls Tryz.prog 61 #[.slice py YN cy] W fun r w' => r = .returned (.int .i64 Y) ∧ Below W.heap.size W w') := by
      intro W hb
      have := stmtSize_any _ m.body py YN cy W (Nat.lt_succ_self _) hYN (hsy.keep hb) (by rw [hY]; omega)
      rw [hY] at this
      exact this
     have HTK := Lib.hid htk
     have b3 : (i : Int) < (MN : Int) := by omega
     have bw1 : IntKind.i64.wrap ((XN : Int) + (Y : Int)) = (XN : Int) + (Y : Int) := IntWalk.i64_in _ (by omega)
     have bw2 : IntKind.i64.wrap ((K : Int) + ((XN : Int) + (Y : Int))) = (K : Int) + ((XN : Int) + (Y : Int)) := IntWalk.i64_in _ (by omega)
     have HK := Lib.hid hK
     have hl0 := cell_lt' x0
     clear hm hc hpx hsy hXN hYN htk hle hY hr hz1 hz2 hz3 hK
     go_upto_region 9 with fail
     obtain ⟨w5, hw5⟩ : ∃ q, q = wr.alloc (.cells #[.string m.name, .slice px XN cx, .slice py YN cy] 64) := ⟨_, rfl⟩
     rw [← hw5] at hbx hcv ⊢
     try rw [hBX]
     have z1 := cell_of_blkP hcv (j := 1) (u := .slice px XN cx) rfl
     have z2 := cell_of_blkP hcv (j := 2) (u := .slice py YN cy) rfl
     have HBD : Hid (Below w.heap.size w w5.drew) := hbx.drew
     clear hbx hcv hw5 x0 x1 x2 hl0 hBX
     go_region_held3 (fun w' => w'.cell? ⟨BX, 1, none⟩ = some (.slice px XN cx) ∧ w'.cell? ⟨BX, 2, none⟩ = some (.slice py YN cy) ∧ Hid (Below w.heap.size w w')) (first | exact sz2_keep (by assumption) hb | exact ⟨z1, z2, HBD⟩ | go_keep) (first | (go_at_call 61; refine (KY.out _ (bl2_of (by assumption))).mono ?_; rintro e w' ⟨rfl, hb⟩))
     go_wp2_with fail
     go_roundg (MN - (i + 1))
     case measure => omega
     case rel =>
      refine ⟨i + 1, K + (XN + Y), by go_num, by omega, rfl, by go_num, by have h1 := HTK.out; have h2 := HK.out; omega, ?_⟩
      have h9 := bl2_of (by assumption)
      exact Lib.hid h9
    ·obtain rfl : i = MN := by omega
     have hfull : s.methods.take i = s.methods := List.take_of_length_le (by rw [HMN.out]; exact Nat.le_refl _)
     rw [hfull, HR.out] at hK
     clear hfull
     go_wp2_with fail
     go_roundg (N - (j + 1))
     case measure => omega
     case rel => exact ⟨j + 1, K, by go_num, by omega, rfl, rfl, by have h1 := HTK.out; have h2 := HM.out; have h3 := HM1.out; omega, HBQ⟩
  ·obtain rfl : j = N := by omega
   have hfull : cs.take j = cs := List.take_of_length_le (by rw [HN.out]; exact Nat.le_refl _)
   rw [hfull, ← HSUM.out] at hM
   subst hM
   clear hfull
   go_wp2_with fail
   go_ret
   exact ⟨rfl, HB.out⟩
end Go.Proofs.YtdckddkalgnlpaaGreatDoor
namespace Go.Proofs.YtdckddkalgnlpaaGreatDoor
open Go.RowKit Go.Maps Pw
set_option maxRecDepth 100000 in
set_option maxHeartbeats 4000000 in
theorem count_any : ∀ (d : Nat) (e : Tr.E) (p : Option Addr) (N c : Nat) (w : World), e.deep ≤ d → e.args.length = N → SlE w (.slice p N c) e.args → Sy.sizeE e ≤ 1000000000 →
 Calls Tryz.prog 34 #[exprV e (.slice p N c)] w fun r w' => r = .returned (.int .i64 (Sy.sizeE e : Nat)) ∧ Below w.heap.size w w' := by
 intro d
 induction d with
 | zero => intro e p N c w hd; have := e.deep_pos; omega
 | succ d ih =>
   intro e p N c w hd hN hS hz
   have hn6 : N ≤ 9223372036854775807 := by
    have := hS.len
    rw [hN] at this
    unfold maxLen at this
    exact this
   obtain ⟨ls, hls⟩ : ∃ q, e.args = q := ⟨_, rfl⟩
   have hsum : Sy.sizeE e = 1 + (ls.map Sy.sizeE).sum := by rw [Sy.sizeE_args, ← hls, ← Sy.sizeEs_sumE]; rfl
   have hde := E_deep_eq e
   rw [hls] at hN hS hde
   have hB := below_box w (.cells #[.int .i64 e.kind, .int .i64 e.op, .int .i64 e.int, .string e.name, .bool e.at_, .slice p N c] 33)
   have hcv := (MapKept.heap_alloc w (.cells #[.int .i64 e.kind, .int .i64 e.op, .int .i64 e.int, .string e.name, .bool e.at_, .slice p N c] 33)).1
   obtain ⟨w1, hw1⟩ : ∃ q, q = w.alloc (.cells #[.int .i64 e.kind, .int .i64 e.op, .int .i64 e.int, .string e.name, .bool e.at_, .slice p N c] 33) := ⟨_, rfl⟩
   obtain ⟨BX, hBX⟩ : ∃ q, w.heap.size = q := ⟨_, rfl⟩
   rw [← hw1] at hB hcv
   rw [hBX] at hcv
   have e5 := cell_of_blkP hcv (j := 5) (u := .slice p N c) rfl
   have HS := Lib.hid (hS.keep hB)
   have HN := Lib.hid hN
   have HD := Lib.hid hd
   have HDE := Lib.hid hde
   have HIH := Lib.hid ih
   have HZ := Lib.hid hz
   have HSUM := Lib.hid hsum
   have HB1 := Lib.hid hB
   have HW1 := Lib.hid hw1
   have HC := Lib.hid e5
   have HBXE := Lib.hid hBX
   unfold exprV
   clear ih hS hN hd hz hsum hls hB hcv hde e5
   go_enter Tryz.func34, Tryz.ntmps34
   go_upto_region 1 with fail
   rw [← HW1.out]
   try rw [hBX]
   clear HW1 hw1 hBX
   have c5 := HC.out
   go_wp2_with fail
   clear c5
   have c5a := HC.out
   go_loopg [3, 5, 9] N (fun g s3 s5 s9 wr => ∃ (j M : Nat), s9 = .int .i64 j ∧ j ≤ N ∧ g = N - j ∧ s3 = .int .i64 M ∧ M = 1 + ((ls.take j).map Sy.sizeE).sum ∧ Hid (Below w1.heap.size w1 wr))
   case atStart => exact ⟨0, 1, rfl, Nat.zero_le _, rfl, rfl, rfl, Below.refl _ _⟩
   case round =>
    obtain ⟨j, M, rfl, hj, rfl, rfl, hM, HB⟩ := hrel
    by_cases hlt : j < N
    ·obtain ⟨x, hx⟩ : ∃ x, ls[j]? = some x := ⟨_, List.getElem?_eq_getElem (by rw [HN.out]; exact hlt)⟩
     obtain ⟨b', o', aa, rfl, _, hc, hbd, hsl⟩ := HS.out.get hx
     obtain ⟨pa, ca, rfl, _⟩ := hsl.form
     obtain ⟨AN, hAN⟩ : ∃ q, x.args.length = q := ⟨_, rfl⟩
     rw [hAN] at hsl hc
     obtain ⟨y0, y1, y2, y3, y4, y5⟩ := hc.keep HB.out
     have htk := sum_take Sy.sizeE hx
     have hle := sum_le Sy.sizeE ls (j + 1)
     rw [htk] at hle
     obtain ⟨Z, hZ⟩ : ∃ q, Sy.sizeE x = q := ⟨_, rfl⟩
     rw [hZ] at htk hle
     have hbx := HB.out.alloc HB.out.size (.cells #[.int .i64 x.kind, .int .i64 x.op, .int .i64 x.int, .string x.name, .bool x.at_, .slice pa AN ca] 33)
     obtain ⟨w4, hw4⟩ : ∃ q, q = wr.alloc (.cells #[.int .i64 x.kind, .int .i64 x.op, .int .i64 x.int, .string x.name, .bool x.at_, .slice pa AN ca] 33) := ⟨_, rfl⟩
     rw [← hw4] at hbx
     have hzz := HSUM.out
     have hzl := HZ.out
     have hdx := Tr.E.deeps_get ls j x hx
     have hcall := HIH.out x pa AN ca w4 (by have := HD.out; have := HDE.out; omega) hAN (hsl.keep hbx) (by rw [hZ]; omega)
     rw [hZ] at hcall
     unfold exprV at hcall
     have HCALL := Lib.hid hcall
     have HBX := Lib.hid hbx
     have HW4 := Lib.hid hw4
     have HTK := Lib.hid htk
     have b3 : (j : Int) < (N : Int) := by omega
     have bw : IntKind.i64.wrap ((M : Int) + (Z : Int)) = (M : Int) + (Z : Int) := IntWalk.i64_in _ (by omega)
     have HM := Lib.hid hM
     have hl0 := cell_lt' y0
     clear hx hc hbd hsl hAN htk hle hbx hw4 hzz hzl hdx hcall hZ hM c5a
     go_wp2_with fail
     rw [← HW4.out]
     refine HCALL.out.mono ?_
     rintro e' w5 ⟨rfl, hb5⟩
     have HB5 := Lib.hid (HBX.out.trans (hb5.mono HBX.out.size))
     clear hb5 y0 y1 y2 y3 y4 y5 hl0 HW4
     go_wp2_with fail
     go_roundg (N - (j + 1))
     case measure => omega
     case rel => exact ⟨j + 1, M + Z, by go_num, by omega, rfl, by go_num, by have h1 := HTK.out; have h2 := HM.out; omega, HB5⟩
    ·obtain rfl : j = N := by omega
     have hfull : ls.take j = ls := List.take_of_length_le (by rw [HN.out]; exact Nat.le_refl _)
     rw [hfull, ← HSUM.out] at hM
     subst hM
     clear hfull
     go_wp2_with fail
     go_ret
     exact ⟨rfl, below_next HB1.out HB.out⟩
end Go.Proofs.YtdckddkalgnlpaaGreatDoor
namespace Go.Proofs.YtdckddkalgnlpaaGreatDoor
namespace Pa
open Tr
section
variable {α β : Type}
def R.rest : R α → Toks
 | .ok _ r => r
 | .bad r => r
def R.app (x : R α) (suf : Toks) : R α :=
 match x with
 | .ok a r => .ok a (r ++ suf)
 | .bad r => .bad (r ++ suf)
def Ext (p : Toks → R α) : Prop := (p []).rest = [] ∧ ∀ ts suf, (p ts).rest ≠ [] → p (ts ++ suf) = (p ts).app suf
theorem Ext.bad : Ext (fun ts => (.bad ts : R α)) := ⟨rfl, fun _ _ _ => rfl⟩
theorem Ext.ok (a : α) : Ext (fun ts => (.ok a ts : R α)) := ⟨rfl, fun _ _ _ => rfl⟩
theorem opOf_app {ops : List Int} {ts : Toks} (suf : Toks) (h : ts ≠ []) : opOf ops (ts ++ suf) = opOf ops ts := by
 unfold opOf
 congr 1
 funext o
 exact is_app suf h
theorem opOf_nil (ops : List Int) : opOf ops [] = none := by
 unfold opOf
 rw [List.find?_eq_none]
 intro o _ h
 exact absurd h (by show ¬ false = true; decide)
theorem Ext.op {ops : List Int} {p : Int → Toks → R α} {q : Toks → R α} (hp : ∀ o, Ext (p o)) (hq : Ext q) : Ext (fun ts => match opOf ops ts with | some o => p o ts.tail | none => q ts) := by
 refine ⟨?_, fun ts suf hr => ?_⟩
 ·show (match opOf ops [] with | some o => p o [] | none => q []).rest = []
  rw [opOf_nil]
  exact hq.1
 ·cases ts with
  | nil => exact absurd (by show (match opOf ops [] with | some o => p o [] | none => q []).rest = []; rw [opOf_nil]; exact hq.1) hr
  | cons x r =>
    have hr : (match opOf ops (x :: r) with | some o => p o r | none => q (x :: r)).rest ≠ [] := hr
    show (match opOf ops (x :: r ++ suf) with | some o => p o (r ++ suf) | none => q (x :: r ++ suf)) = (match opOf ops (x :: r) with | some o => p o r | none => q (x :: r)).app suf
    rw [opOf_app suf (List.cons_ne_nil x r)]
    cases hc : opOf ops (x :: r) with
    | some o => rw [hc] at hr; exact (hp o).2 r suf hr
    | none => rw [hc] at hr; exact hq.2 (x :: r) suf hr
end
def pC' (f : Nat) (ac : Bool) (ts : Toks) : R C := (word 3 ts).bind fun n r => (expect [123] r).bind fun _ r => (pFields f [] r).bind fun fs r =>
    (if ac then pMs f [] r else .ok [] r).bind fun ms r => (expect [125] r).bind fun _ r => .ok ⟨n, ac, fs, ms⟩ r
theorem pC_eq (f : Nat) (ts : Toks) : pC f ts = if is [97, 99, 116, 111, 114] ts then pC' f true ts.tail else (expect [114, 101, 99, 111, 114, 100] ts).bind fun _ r => pC' f false r := by
 unfold pC pC'
 cases is [97, 99, 116, 111, 114] ts <;> rfl
end Pa
end Go.Proofs.YtdckddkalgnlpaaGreatDoor
