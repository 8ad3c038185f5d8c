/-
  The reference's Faults, walked.
-/
import Derived.Test.YtdafdbjdnebnfaaGreatDoorCkRefState
namespace Go.Proofs.YtdafdbjdnebnfaaGreatDoor
open Go.RowKit Go.Maps

def FaultsRPost (cs : List Tr.C) (w : World) (e : Ending) (w' : World) : Prop :=
  ∃ v, e = .returned v ∧ w'.ownsRow w.heap.size 62 3 v (Ck.faults cs).length (flatV fCells (Ck.faults cs)) ∧ Below w.heap.size w w'
theorem cls_eq (x0 x1 x2 x3 : Bool) (t : Nat) : (if t = 3 then x3 else if t = 2 then x2 else if t = 1 then x1 else if t = 0 then x0 else false) = (t == 0 && x0 || t == 1 && x1 || t == 2 && x2 || t == 3 && x3) := by
  by_cases h0 : t = 0
  · subst h0; simp
  · by_cases h1 : t = 1
    · subst h1; simp
    · by_cases h2 : t = 2
      · subst h2; simp
      · by_cases h3 : t = 3
        · subst h3; simp
        · simp [h0, h1, h2, h3]
theorem mth_eq (x4 x5 x6 : Bool) (t : Nat) : (if t = 6 then x6 else if t = 5 then x5 else if t = 4 then x4 else false) = (t == 4 && x4 || t == 5 && x5 || t == 6 && x6) := by
  by_cases h0 : t = 4
  · subst h0; simp
  · by_cases h1 : t = 5
    · subst h1; simp
    · by_cases h2 : t = 6
      · subst h2; simp
      · simp [h0, h1, h2]

def boolAt (w : World) (b k : Nat) : Bool := match w.cell? ⟨b, k, none⟩ with | some (.bool x) => x | _ => false
theorem GSt.bcell {w : World} {L : List (Nat × Obj)} {FB : Nat} {f : Nat → Bool} {out : Value} {l : List Ck.F} {W : World} (h : GSt w L FB f out l W) {k : Nat} (hk : k < 13) : W.cell? ⟨FB, k, none⟩ = some (.bool (boolAt W FB k)) := by
  have e : boolAt W FB k = f k := by unfold boolAt; rw [h.fcell hk]
  rw [e]; exact h.fcell hk
theorem gor {p0 p1 p2 p3 p4 q : Prop} (h : p0 ∧ p1 ∧ p2 ∧ p3 ∧ p4 ∧ Hid q) : q := h.2.2.2.2.2.out
theorem gor_keep {p0 p1 p2 p3 p4 : Prop} {w : World} {L : List (Nat × Obj)} {FB : Nat} {f g : Nat → Bool} {out : Value} {l : List Ck.F} {W W' : World} (h : p0 ∧ p1 ∧ p2 ∧ p3 ∧ p4 ∧ Hid (GSt w L FB f out l W ∨ GSt w L FB g out l W)) (hb : Below W.heap.size W W') : GSt w L FB f out l W' ∨ GSt w L FB g out l W' :=
  (gor h).elim (fun h => Or.inl (h.keep hb)) (fun h => Or.inr (h.keep hb))
theorem gor_below {p0 p1 p2 p3 p4 : Prop} {w : World} {L : List (Nat × Obj)} {FB : Nat} {f g : Nat → Bool} {out : Value} {l : List Ck.F} {W : World} (h : p0 ∧ p1 ∧ p2 ∧ p3 ∧ p4 ∧ Hid (GSt w L FB f out l W ∨ GSt w L FB g out l W)) : Below w.heap.size w W :=
  (gor h).elim (fun h => h.st.below) (fun h => h.st.below)
theorem mk13 (w : World) : (Instr.makeSlice 96 (.int .i64 13) (.int .i64 13)).run Tryz.prog w = .ok (.slice (some ⟨w.heap.size, 0, none⟩) 13 13) (w.alloc (.cells (foundCells fun _ => false) 4)) := by kernel_rfl
theorem found_congr {f g : Nat → Bool} (h : ∀ t, f t = g t) : Ck.found f = Ck.found g := by rw [funext h]

set_option maxRecDepth 100000 in
set_option maxHeartbeats 40000000 in
theorem faultsR_any (v : Value) (cs : List Tr.C) (w : World) (h : SlC w v cs) (hval : Tr.validP cs = true) (hsm : Ck.Small cs) :
    Calls Tryz.prog 31 #[.agg #[v]] w (FaultsRPost cs w) := by
  obtain ⟨i0, hi0, hz0, hz1, hz2⟩ := info_parts frInfo
  obtain ⟨pv, cpv, rfl⟩ := h.form
  have hll := h.len
  unfold maxLen at hll
  have KCL : Hid (∀ (W : World) (nm : ByteArray), Below w.heap.size w W → Calls Tryz.prog 19 #[.agg #[.slice pv cs.length cpv], .string nm] W fun e w' => e = .returned (.tuple #[.int .i64 ((Ck.classAt cs nm).getD 0 : Nat), .bool (Ck.classAt cs nm).isSome]) ∧ Below W.heap.size W w') := fun W nm hb => refClass_any nm cs _ W (h.keep hb)
  have HH := Lib.hid h
  obtain ⟨CN, hCN⟩ : ∃ N, cs.length = N := ⟨_, rfl⟩
  have HCN := Lib.hid hCN
  rw [hCN] at HH KCL hll ⊢
  have HVAL := Lib.hid hval
  have HSM := Lib.hid hsm
  have HCNT := hsm.cnt
  obtain ⟨w2, hw2⟩ : ∃ q, q = (w.alloc (.cells #[.slice pv CN cpv] 24)).alloc (.cells #[] 62) := ⟨_, rfl⟩
  have HF0 : Hid (GS0 w [(w.heap.size, (.cells #[.slice pv CN cpv] 24))] (.slice (some ⟨w.heap.size + 1, 0, none⟩) 0 0) [] w2) := by
    have ho := own_empty (w.alloc (.cells #[.slice pv CN cpv] 24)) 62 3
    have hb1 := below_box w (.cells #[.slice pv CN cpv] 24)
    have hb2 := below_box (w.alloc (.cells #[.slice pv CN cpv] 24)) (.cells #[] 62)
    rw [← hw2] at ho hb2
    simp only [World.size_alloc] at ho
    refine Lib.hid ⟨own_base ho (Nat.le_succ _), below_next hb1 hb2, fun x hx => ?_⟩
    rcases List.mem_singleton.1 hx with rfl
    exact ⟨(hb2.block _ (lt_of_block (MapKept.heap_alloc w _).1)).trans (MapKept.heap_alloc w _).1, goodG_of _ _ _ (by decide) (by decide)⟩
  have HW2 := Lib.hid hw2
  have hmk := mk13
  clear h hval hsm hCN hw2
  go_enter Tryz.func31, Tryz.ntmps31
  go_wp2_with fail
  rw [← HW2.out]
  go_loopg [3, 4] CN (fun g s3 s4 wr => ∃ i : Nat, s4 = .int .i64 i ∧ i ≤ CN ∧ g = CN - i ∧ Hid (GS0 w [(w.heap.size, (.cells #[.slice pv CN cpv] 24))] s3 (Ck.faultsC cs (cs.take i) 0) wr))
  case atStart => exact ⟨0, rfl, Nat.zero_le _, rfl, HF0⟩
  case round =>
    obtain ⟨i, rfl, hi, rfl, HST⟩ := hrel
    clear HF0 HW2
    have e0 := HST.out.cell (b := w.heap.size) (j := 0) (cs := #[.slice pv CN cpv]) (t := 24) (List.mem_cons_self ..) rfl
    by_cases hlt : i < CN
    · obtain ⟨c, hx⟩ : ∃ x, cs[i]? = some x := ⟨_, List.getElem?_eq_getElem (by rw [HCN.out]; exact hlt)⟩
      obtain ⟨b, oo, vf, vm, rfl, hblt, hc, hnm, hsf, hsm⟩ := HH.out.get hx
      obtain ⟨pf, cf, rfl⟩ := hsf.form
      obtain ⟨pm, cm, rfl⟩ := hsm.form
      have hfl := hsf.len
      have hml := hsm.len
      unfold maxLen at hfl hml
      obtain ⟨FN, hFN⟩ : ∃ N, c.fields.length = N := ⟨_, rfl⟩
      obtain ⟨MN, hMN⟩ : ∃ N, c.methods.length = N := ⟨_, rfl⟩
      rw [hFN] at hc hfl
      rw [hMN] at hc hml
      have x0 := cell_keep' HST.out.below hc.1
      have x1 := cell_keep' HST.out.below hc.2.1
      have x2 := cell_keep' HST.out.below hc.2.2.1
      have x3 := cell_keep' HST.out.below hc.2.2.2
      have HX := Lib.hid hx
      have HFN := Lib.hid hFN
      have HMN := Lib.hid hMN
      have KT : Hid (∀ (W : World), Below w.heap.size w W → Calls Tryz.prog 61 #[.slice pf FN cf] W fun e w' => e = .returned (.bool (Ck.twice c.fields)) ∧ Below W.heap.size W w') := fun W hb => by have := twiceR_any _ c.fields W (hsf.keep hb); rw [hFN] at this; exact this
      have HSC := Lib.hid (HSM.out.all c (List.mem_of_getElem? hx))
      have HVC := Lib.hid (validP_get HVAL.out hx)
      rw [hFN] at hsf
      rw [hMN] at hsm
      have HSF := Lib.hid hsf
      have HSMm := Lib.hid hsm
      have hln1 : (Ck.faultsC cs (cs.take i) 0).length ≤ 13000000 := by have := faultsC_len cs (cs.take i) 0; have := Ck.cnt_take cs i; omega
      have hb3 : (i : Int) < (CN : Int) := by omega
      obtain ⟨po, co, rfl⟩ := own_form HST.out.own
      obtain ⟨r0, hr0⟩ : ∃ q, (Ck.faultsC cs (cs.take i) 0) = q := ⟨_, rfl⟩
      have HR0 := Lib.hid hr0
      rw [hr0] at HST hln1 ⊢
      obtain ⟨ln0, hln0⟩ : ∃ q, r0.length = q := ⟨_, rfl⟩
      have HLN0 := Lib.hid hln0
      rw [hln0] at HST hln1 ⊢
      obtain ⟨fi, hfi⟩ : ∃ q, (Ck.classAt cs c.name).getD 0 = q := ⟨_, rfl⟩
      obtain ⟨fb, hfb⟩ : ∃ q, (Ck.classAt cs c.name).isSome = q := ⟨_, rfl⟩
      have KC1 := Lib.hid (fun W hb => KCL.out W c.name hb)
      simp only [hfi, hfb] at KC1
      have HFI := Lib.hid hfi
      obtain ⟨bc, hbc⟩ : ∃ q, wr.heap.size = q := ⟨_, rfl⟩
      have HF1 : Hid (GS0 w [(bc, (.cells #[.string c.name, .bool c.actor, .slice pf FN cf, .slice pm MN cm] 36)), (w.heap.size, (.cells #[.slice (some ⟨b, oo, none⟩) CN cpv] 24))] (.slice po ln0 co) r0 (wr.alloc (.cells #[.string c.name, .bool c.actor, .slice pf FN cf, .slice pm MN cm] 36))) := by
        have h1 := HST.out.box #[.string c.name, .bool c.actor, .slice pf FN cf, .slice pm MN cm] 36 (by decide) (by decide)
        rw [hbc] at h1
        exact Lib.hid h1
      obtain ⟨w3, hw3⟩ : ∃ w3, w3 = wr.alloc (.cells #[.string c.name, .bool c.actor, .slice pf FN cf, .slice pm MN cm] 36) := ⟨_, rfl⟩
      rw [← hw3] at HF1
      have HW3 := Lib.hid hw3
      have HBC := Lib.hid hbc
      clear hx hc hnm hsf hsm hFN hMN hr0 hln0 hfi hfb hbc hw3 hblt
      go_upto_region 6 with fail
      rw [← HW3.out, HBC.out]
      clear x0 x1 x2 x3 e0 HW3
      have c0 := HF1.out.cell (b := bc) (j := 0) (cs := #[.string c.name, .bool c.actor, .slice pf FN cf, .slice pm MN cm]) (u := .string c.name) (t := 36) (List.mem_cons_self ..) rfl
      have e0 := HF1.out.cell (b := w.heap.size) (j := 0) (cs := #[.slice (some ⟨b, oo, none⟩) CN cpv]) (u := .slice (some ⟨b, oo, none⟩) CN cpv) (t := 24) (List.mem_cons_of_mem _ (List.mem_cons_self ..)) rfl
      go_wp2_with fail
      refine (KC1.out _ HF1.out.below).mono ?_
      rintro e w4 ⟨rfl, hb4⟩
      have HF2 := Lib.hid (HF1.out.keep hb4)
      clear hb4 HF1 c0 e0
      obtain ⟨FB, hFB⟩ : ∃ q, w4.heap.size = q := ⟨_, rfl⟩
      have HG0 := Lib.hid (HF2.out.made (fun _ => false))
      obtain ⟨w5, hw5⟩ : ∃ q, q = w4.alloc (.cells (foundCells fun _ => false) 4) := ⟨_, rfl⟩
      rw [← hw5, hFB] at HG0
      have HW5 := Lib.hid hw5
      have HFB := Lib.hid hFB
      clear hw5 hFB
      go_upto_region 8 with fail
      rw [← HW5.out, HFB.out]
      clear HW5 hmk
      have f0 := HG0.out.fcell (k := 0) (by omega)
      have g0 := HG0.out.free 0
      have HG1 := Lib.hid (HG0.out.set ((i : Int) == 60) (k := 0) (by omega))
      obtain ⟨w6, hw6⟩ : ∃ q, q = w5.setCell ⟨FB, 0, none⟩ (.bool ((i : Int) == 60)) := ⟨_, rfl⟩
      rw [← hw6] at HG1
      have HXw6 := Lib.hid hw6
      clear hw6
      go_upto_region 9 with fail
      rw [← HXw6.out]
      clear f0 g0 HXw6
      have f1 := HG1.out.fcell (k := 1) (by omega)
      have g1 := HG1.out.free 1
      have c2 := HG1.out.st.cell (b := bc) (j := 2) (cs := #[.string c.name, .bool c.actor, .slice pf FN cf, .slice pm MN cm]) (u := .slice pf FN cf) (t := 36) (List.mem_cons_self ..) rfl
      have c3 := HG1.out.st.cell (b := bc) (j := 3) (cs := #[.string c.name, .bool c.actor, .slice pf FN cf, .slice pm MN cm]) (u := .slice pm MN cm) (t := 36) (List.mem_cons_self ..) rfl
      go_cut [] (fun wx => Hid (GSt w [(bc, (.cells #[.string c.name, .bool c.actor, .slice pf FN cf, .slice pm MN cm] 36)), (w.heap.size, (.cells #[.slice (some ⟨b, oo, none⟩) CN cpv] 24))] FB (fun t => if t = 1 then decide (30 < FN ∨ 30 < MN) else (fun t => if t = 0 then ((i : Int) == 60) else false) t) (.slice po ln0 co) r0 wx))
      case first =>
        by_cases h30 : 30 < FN
        · have h30b : decide (30 < (FN : Int)) = true := decide_eq_true (by omega)
          have HD : Hid (decide (30 < FN ∨ 30 < MN) = true) := by show _ = _; exact decide_eq_true (by omega)
          clear h30
          go_wp2_with fail
          go_meet
          exact Lib.hid ((HG1.out.set _ (k := 1) (by omega)).congr (fun t => by rw [HD.out]))
        · have h30b : decide (30 < (FN : Int)) = false := decide_eq_false (by omega)
          by_cases h31 : 30 < MN
          · have h31b : decide (30 < (MN : Int)) = true := decide_eq_true (by omega)
            have HD : Hid (decide (30 < FN ∨ 30 < MN) = true) := by show _ = _; exact decide_eq_true (by omega)
            clear h31 h30
            go_wp2_with fail
            go_meet
            exact Lib.hid ((HG1.out.set _ (k := 1) (by omega)).congr (fun t => by rw [HD.out]))
          · have h31b : decide (30 < (MN : Int)) = false := decide_eq_false (by omega)
            have HD : Hid (decide (30 < FN ∨ 30 < MN) = false) := by show _ = _; exact decide_eq_false (by omega)
            clear h31 h30
            go_wp2_with fail
            go_meet
            exact Lib.hid ((HG1.out.set _ (k := 1) (by omega)).congr (fun t => by rw [HD.out]))
      case rest =>
        have HG2 := hcut
        clear hcut c2 c3 f1 g1
        skip
        have f2 := HG2.out.fcell (k := 2) (by omega)
        have g2 := HG2.out.free 2
        have c0 := HG2.out.st.cell (b := bc) (j := 0) (cs := #[.string c.name, .bool c.actor, .slice pf FN cf, .slice pm MN cm]) (u := .string c.name) (t := 36) (List.mem_cons_self ..) rfl
        go_upto_region 10 with fail
        go_cut [] (fun wx => Hid (GSt w [(bc, (.cells #[.string c.name, .bool c.actor, .slice pf FN cf, .slice pm MN cm] 36)), (w.heap.size, (.cells #[.slice (some ⟨b, oo, none⟩) CN cpv] 24))] FB (fun t => if t = 2 then (decide (fi < i) || decide (c.name = Ck.weak)) else (fun t => if t = 1 then decide (30 < FN ∨ 30 < MN) else (fun t => if t = 0 then ((i : Int) == 60) else false) t) t) (.slice po ln0 co) r0 wx))
        case first =>
          by_cases hfi : fi < i
          · have hfib : decide (fi < i) = true := decide_eq_true hfi
            have HD : Hid ((decide (fi < i) || decide (c.name = Ck.weak)) = true) := by show _ = _; rw [hfib]; rfl
            go_wp2_with fail
            go_meet
            exact Lib.hid ((HG2.out.set _ (k := 2) (by omega)).congr (fun t => by rw [HD.out]))
          · have hfib : decide (fi < i) = false := decide_eq_false hfi
            cases hwk : (c.name.toList == [87, 101, 97, 107])
            · have HD : Hid ((decide (fi < i) || decide (c.name = Ck.weak)) = false) := by show _ = _; have := fc3 fi i c.name; rw [hwk, hfib] at this; rw [hfib, ← this]; rfl
              go_wp2_with fail
              go_meet
              exact Lib.hid ((HG2.out.set _ (k := 2) (by omega)).congr (fun t => by rw [HD.out]))
            · have HD : Hid ((decide (fi < i) || decide (c.name = Ck.weak)) = true) := by show _ = _; have := fc3 fi i c.name; rw [hwk, hfib] at this; rw [hfib, ← this]; rfl
              go_wp2_with fail
              go_meet
              exact Lib.hid ((HG2.out.set _ (k := 2) (by omega)).congr (fun t => by rw [HD.out]))
        case rest =>
          have HG3 := hcut
          clear hcut c0 f2 g2
          have c2 := HG3.out.st.cell (b := bc) (j := 2) (cs := #[.string c.name, .bool c.actor, .slice pf FN cf, .slice pm MN cm]) (u := .slice pf FN cf) (t := 36) (List.mem_cons_self ..) rfl
          go_wp2_with fail
          refine (KT.out _ HG3.out.st.below).mono ?_
          rintro e w9 ⟨rfl, hb9⟩
          have HG4 := Lib.hid (HG3.out.keep hb9)
          clear hb9 c2
          have f3 := HG4.out.fcell (k := 3) (by omega)
          have g3 := HG4.out.free 3
          have HG5 := Lib.hid (HG4.out.set (Ck.twice c.fields) (k := 3) (by omega))
          go_wp2_with fail
          refine (atR_any FB _ i none (-1) rfl _ HG5.out.fnd).mono ?_
          rintro e w10 ⟨v10, rfl, ho10, hb10⟩
          have HF8 := Lib.hid (HG5.out.st.keep hb10)
          clear hb10 f3 g3 HG0 HG1 HG2 HG3 HG4 HG5 HF2
          rw [found_congr (g := Ck.faultC cs i c) (fun t => by show (if t = 3 then _ else if t = 2 then _ else if t = 1 then _ else if t = 0 then _ else false) = _; rw [cls_eq, fc1, ← HFI.out, ← HFN.out, ← HMN.out]; rfl)] at ho10
          have HO10 := Lib.hid ho10
          have hal := atRow_found i none (Ck.faultC cs i c)
          obtain ⟨p10, k10, rfl⟩ := own_form ho10
          clear ho10
          obtain ⟨ln1, hln1'⟩ : ∃ q, (atRow i none (Ck.found (Ck.faultC cs i c))).length = q := ⟨_, rfl⟩
          have HLN1 := Lib.hid hln1'
          rw [hln1'] at HO10 hal ⊢
          clear hln1'
          go_wp2_with (at_builtin; refine wpList_append_row _ rfl _ _ 58 rfl w.heap.size 62 i0 (.agg #[.int .i64 0, .int .i64 0, .int .i64 0]) 3 24 Tryz.underlying58 hi0 hz0 hz1 hz2 rfl (by decide) _ _ _ rfl HF8.out.own _ _ _ _ rfl HO10.out (fRow_one _) (by rw [HLN0.out]; unfold maxLen; omega) (by rw [HLN0.out]; omega) HF8.out.below.size ?_; intro v11 w11 ho11 hg11; have HF9 := Lib.hid (HF8.out.app (r := atRow i none (Ck.found (Ck.faultC cs i c))) (by rw [HLN0.out, HLN1.out]) ho11 hg11); clear ho11 hg11)
          clear HF8 HO10
          obtain ⟨r1, hr1⟩ : ∃ q, r0 ++ atRow i none (Ck.found (Ck.faultC cs i c)) = q := ⟨_, rfl⟩
          have hl1 : r1.length ≤ 13000013 := by rw [← hr1, List.length_append, HLN0.out, HLN1.out]; omega
          have HR1 := Lib.hid hr1
          rw [hr1] at HF9
          clear hr1
          go_loopg [3, 9] MN (fun g s3 s9 wr => ∃ k : Nat, s9 = .int .i64 k ∧ k ≤ MN ∧ g = MN - k ∧ Hid (GS0 w [(bc, (.cells #[.string c.name, .bool c.actor, .slice pf FN cf, .slice pm MN cm] 36)), (w.heap.size, (.cells #[.slice (some ⟨b, oo, none⟩) CN cpv] 24))] s3 (r1 ++ Ck.faultsM cs i c (c.methods.take k) 0) wr))
          case atStart => exact ⟨0, rfl, Nat.zero_le _, rfl, by rw [List.take_zero, Ck.faultsM, List.append_nil]; exact HF9⟩
          case round =>
            obtain ⟨k, rfl, hk, rfl, HMT⟩ := hrel
            clear HF9
            have c3 := HMT.out.cell (b := bc) (j := 3) (cs := #[.string c.name, .bool c.actor, .slice pf FN cf, .slice pm MN cm]) (u := .slice pm MN cm) (t := 36) (List.mem_cons_self ..) rfl
            by_cases hkl : k < MN
            · obtain ⟨m, hy⟩ : ∃ x, c.methods[k]? = some x := ⟨_, List.getElem?_eq_getElem (by rw [HMN.out]; exact hkl)⟩
              obtain ⟨b2, o2, vp, vb, rfl, hblt2, hcm, hnm2, hsp, hsb⟩ := HSMm.out.get hy
              obtain ⟨pp, cp, rfl⟩ := hsp.form
              obtain ⟨pb, cb, rfl, _⟩ := hsb.form
              obtain ⟨PN, hPN⟩ : ∃ N, m.params.length = N := ⟨_, rfl⟩
              obtain ⟨BN, hBN⟩ : ∃ N, m.body.length = N := ⟨_, rfl⟩
              obtain ⟨LN, hLN⟩ : ∃ N, Ck.lets m.body = N := ⟨_, rfl⟩
              rw [hPN, hBN] at hcm
              have y0 := cell_keep' HMT.out.below hcm.1
              have y1 := cell_keep' HMT.out.below hcm.2.1
              have y2 := cell_keep' HMT.out.below hcm.2.2
              have HSMA := Lib.hid (HSC.out.all m (List.mem_of_getElem? hy))
              have hpn := HSMA.out.params
              have hln := HSMA.out.lets
              have HNL := Lib.hid hln
              rw [hPN] at hpn hln
              rw [hLN] at hln
              have HVB := Lib.hid (validC_get HVC.out hy)
              have hrm := faultsM_len cs i c (c.methods.take k) 0
              rw [List.length_take, HMN.out, Nat.min_eq_left hk] at hrm
              have hmn6 := HSC.out.mths
              rw [HMN.out] at hmn6
              have hln2 : (r1 ++ Ck.faultsM cs i c (c.methods.take k) 0).length ≤ 30000000 := by rw [List.length_append]; omega
              obtain ⟨gi, hgi⟩ : ∃ q, (Ck.methodAt c.methods m.name).getD 0 = q := ⟨_, rfl⟩
              obtain ⟨gb, hgb⟩ : ∃ q, (Ck.methodAt c.methods m.name).isSome = q := ⟨_, rfl⟩
              have KM1 : Hid (∀ (W : World), Below w.heap.size w W → Calls Tryz.prog 21 #[.agg #[.string c.name, .bool c.actor, .slice pf FN cf, .slice (some ⟨b2, o2, none⟩) MN cm], .string m.name] W fun e w' => e = .returned (.tuple #[.int .i64 (gi : Nat), .bool gb]) ∧ Below W.heap.size W w') := fun W hb => by have := refMethod_any m.name c _ _ W (HSF.out.keep hb) (HSMm.out.keep hb); unfold classV at this; rw [hgi, hgb] at this; exact this
              have KL1 : Hid (∀ (W : World), Below w.heap.size w W → Calls Tryz.prog 63 #[.slice pb BN cb] W fun e w' => e = .returned (.int .i64 (LN : Nat)) ∧ Below W.heap.size W w') := fun W hb => by have := letsR_any _ m.body _ W (Nat.le_refl _) (hsb.keep hb) (by omega); rw [hLN, hBN] at this; exact this
              have KR1 : Hid (∀ (W : World), Below w.heap.size w W → Calls Tryz.prog 61 #[.slice pp PN cp] W fun e w' => e = .returned (.bool (Ck.twice m.params)) ∧ Below W.heap.size W w') := fun W hb => by have := twiceR_any _ m.params W (hsp.keep hb); rw [hPN] at this; exact this
              rw [hPN] at hsp
              rw [hBN] at hsb
              have HSP := Lib.hid hsp
              have HSB := Lib.hid hsb
              have HY := Lib.hid hy
              have HPN := Lib.hid hPN
              have HLN := Lib.hid hLN
              have HGI := Lib.hid hgi
              obtain ⟨pu, cu, rfl⟩ := own_form HMT.out.own
              obtain ⟨rws, hrws⟩ : ∃ q, (r1 ++ Ck.faultsM cs i c (c.methods.take k) 0) = q := ⟨_, rfl⟩
              rw [hrws] at HMT hln2 ⊢
              have HRW := Lib.hid hrws
              obtain ⟨ln2, hl2⟩ : ∃ q, rws.length = q := ⟨_, rfl⟩
              rw [hl2] at HMT hln2 ⊢
              have HLN2 := Lib.hid hl2
              obtain ⟨bm, hbm⟩ : ∃ q, wr.heap.size = q := ⟨_, rfl⟩
              have HG1 : Hid (GS0 w [(bm, (.cells #[.string m.name, .slice pp PN cp, .slice pb BN cb] 41)), (bc, (.cells #[.string c.name, .bool c.actor, .slice pf FN cf, .slice (some ⟨b2, o2, none⟩) MN cm] 36)), (w.heap.size, (.cells #[.slice (some ⟨b, oo, none⟩) CN cpv] 24))] (.slice pu ln2 cu) rws (wr.alloc (.cells #[.string m.name, .slice pp PN cp, .slice pb BN cb] 41))) := by
                have h1 := HMT.out.box #[.string m.name, .slice pp PN cp, .slice pb BN cb] 41 (by decide) (by decide)
                rw [hbm] at h1
                exact Lib.hid h1
              obtain ⟨w4, hw4⟩ : ∃ w4, w4 = wr.alloc (.cells #[.string m.name, .slice pp PN cp, .slice pb BN cb] 41) := ⟨_, rfl⟩
              rw [← hw4] at HG1
              have HW4 := Lib.hid hw4
              have HBM := Lib.hid hbm
              have b3k : (k : Int) < (MN : Int) := by omega
              clear hy hcm hsp hsb hPN hBN hLN hgi hgb hw4 hbm hblt2 hnm2 hrm hrws hl2 hmn6
              go_upto_region 17 with fail
              rw [← HW4.out, HBM.out]
              clear y0 y1 y2 c3 HW4 HMT
              have c0 := HG1.out.cell (b := bc) (j := 0) (cs := #[.string c.name, .bool c.actor, .slice pf FN cf, .slice (some ⟨b2, o2, none⟩) MN cm]) (u := .string c.name) (t := 36) (List.mem_cons_of_mem _ (List.mem_cons_self ..)) rfl
              have c1 := HG1.out.cell (b := bc) (j := 1) (cs := #[.string c.name, .bool c.actor, .slice pf FN cf, .slice (some ⟨b2, o2, none⟩) MN cm]) (u := .bool c.actor) (t := 36) (List.mem_cons_of_mem _ (List.mem_cons_self ..)) rfl
              have c2 := HG1.out.cell (b := bc) (j := 2) (cs := #[.string c.name, .bool c.actor, .slice pf FN cf, .slice (some ⟨b2, o2, none⟩) MN cm]) (u := .slice pf FN cf) (t := 36) (List.mem_cons_of_mem _ (List.mem_cons_self ..)) rfl
              have c3 := HG1.out.cell (b := bc) (j := 3) (cs := #[.string c.name, .bool c.actor, .slice pf FN cf, .slice (some ⟨b2, o2, none⟩) MN cm]) (u := .slice (some ⟨b2, o2, none⟩) MN cm) (t := 36) (List.mem_cons_of_mem _ (List.mem_cons_self ..)) rfl
              have e0 := HG1.out.cell (b := w.heap.size) (j := 0) (cs := #[.slice (some ⟨b, oo, none⟩) CN cpv]) (u := .slice (some ⟨b, oo, none⟩) CN cpv) (t := 24) (List.mem_cons_of_mem _ (List.mem_cons_of_mem _ (List.mem_cons_self ..))) rfl
              go_cut [11] (fun s11 wx => ∃ P FB : Nat, s11 = .pointer (some ⟨P, 0, none⟩) ∧ Hid (GSt w ((P, (.cells (finCells (.slice (some ⟨b, oo, none⟩) CN cpv) c (.slice pf FN cf) (.slice (some ⟨b2, o2, none⟩) MN cm) FB) 100)) :: [(bm, (.cells #[.string m.name, .slice pp PN cp, .slice pb BN cb] 41)), (bc, (.cells #[.string c.name, .bool c.actor, .slice pf FN cf, .slice (some ⟨b2, o2, none⟩) MN cm] 36)), (w.heap.size, (.cells #[.slice (some ⟨b, oo, none⟩) CN cpv] 24))]) FB (fun _ => false) (.slice pu ln2 cu) rws wx))
              case first =>
                have hmk := mk13
                have hl1 := cell_lt' c0
                have hl0 := cell_lt' e0
                go_region
                all_goals
                  go_wp2_with fail
                  go_meet
                  have h1 := (HG1.out.keep (Below.refl _ _).drew).made (fun _ => false)
                  have h2 := (h1.keep (below_box _ (.cells (finCells (.slice (some ⟨b, oo, none⟩) CN cpv) c (.slice pf FN cf) (.slice (some ⟨b2, o2, none⟩) MN cm) w4.heap.size) 100))).add (MapKept.heap_alloc _ _).1 (goodG_of _ _ _ (by decide) (by decide))
                  simp only [World.size_alloc] at h2
                  have h3 := HG1.out.made (fun _ => false)
                  have h4 := (h3.keep (below_box _ (.cells (finCells (.slice (some ⟨b, oo, none⟩) CN cpv) c (.slice pf FN cf) (.slice (some ⟨b2, o2, none⟩) MN cm) w4.heap.size) 100))).add (MapKept.heap_alloc _ _).1 (goodG_of _ _ _ (by decide) (by decide))
                  simp only [World.size_alloc] at h4
                  first | exact ⟨_, _, rfl, Lib.hid (h4.keep (Below.refl _ _).drew)⟩ | exact ⟨_, _, rfl, Lib.hid h2⟩ | (trace_state; sorry)
              case rest =>
                obtain ⟨P, FB, rfl, HG2⟩ := hcut
                clear HG1 c0 c1 c2 c3 e0
                have c0 := HG2.out.st.cell (b := bc) (j := 0) (cs := #[.string c.name, .bool c.actor, .slice pf FN cf, .slice (some ⟨b2, o2, none⟩) MN cm]) (u := .string c.name) (t := 36) (List.mem_cons_of_mem _ (List.mem_cons_of_mem _ (List.mem_cons_self ..))) rfl
                have c1 := HG2.out.st.cell (b := bc) (j := 1) (cs := #[.string c.name, .bool c.actor, .slice pf FN cf, .slice (some ⟨b2, o2, none⟩) MN cm]) (u := .bool c.actor) (t := 36) (List.mem_cons_of_mem _ (List.mem_cons_of_mem _ (List.mem_cons_self ..))) rfl
                have c2 := HG2.out.st.cell (b := bc) (j := 2) (cs := #[.string c.name, .bool c.actor, .slice pf FN cf, .slice (some ⟨b2, o2, none⟩) MN cm]) (u := .slice pf FN cf) (t := 36) (List.mem_cons_of_mem _ (List.mem_cons_of_mem _ (List.mem_cons_self ..))) rfl
                have c3 := HG2.out.st.cell (b := bc) (j := 3) (cs := #[.string c.name, .bool c.actor, .slice pf FN cf, .slice (some ⟨b2, o2, none⟩) MN cm]) (u := .slice (some ⟨b2, o2, none⟩) MN cm) (t := 36) (List.mem_cons_of_mem _ (List.mem_cons_of_mem _ (List.mem_cons_self ..))) rfl
                have d0 := HG2.out.st.cell (b := bm) (j := 0) (cs := #[.string m.name, .slice pp PN cp, .slice pb BN cb]) (u := .string m.name) (t := 41) (List.mem_cons_of_mem _ (List.mem_cons_self ..)) rfl
                go_wp2_with fail
                refine (KM1.out _ HG2.out.st.below).mono ?_
                rintro e w5 ⟨rfl, hb5⟩
                have HG3 := Lib.hid (HG2.out.keep hb5)
                clear hb5 HG2 c0 c1 c2 c3 d0
                have p5 := HG3.out.st.cell (b := P) (j := 5) (cs := finCells (.slice (some ⟨b, oo, none⟩) CN cpv) c (.slice pf FN cf) (.slice (some ⟨b2, o2, none⟩) MN cm) FB) (u := .slice (some ⟨FB, 0, none⟩) 13 13) (t := 100) (List.mem_cons_self ..) rfl
                have f4 := HG3.out.fcell (k := 4) (by omega)
                have g4 := HG3.out.free 4
                have HG4 : Hid (GSt w ((P, (.cells (finCells (.slice (some ⟨b, oo, none⟩) CN cpv) c (.slice pf FN cf) (.slice (some ⟨b2, o2, none⟩) MN cm) FB) 100)) :: [(bm, (.cells #[.string m.name, .slice pp PN cp, .slice pb BN cb] 41)), (bc, (.cells #[.string c.name, .bool c.actor, .slice pf FN cf, .slice (some ⟨b2, o2, none⟩) MN cm] 36)), (w.heap.size, (.cells #[.slice (some ⟨b, oo, none⟩) CN cpv] 24))]) FB (fun t => if t = 4 then decide (gi < k) else false) (.slice pu ln2 cu) rws (w5.setCell ⟨FB, 4, none⟩ (.bool (decide (gi < k))))) := Lib.hid (HG3.out.set (decide (gi < k)) (k := 4) (by omega))
                obtain ⟨w6, hw6⟩ : ∃ q, q = w5.setCell ⟨FB, 4, none⟩ (.bool (decide (gi < k))) := ⟨_, rfl⟩
                rw [← hw6] at HG4
                have HW6 := Lib.hid hw6
                clear hw6
                go_upto_region 20 with fail
                rw [← HW6.out]
                clear p5 f4 g4 HW6
                go_cut [] (fun wx => Hid (GSt w ((P, (.cells (finCells (.slice (some ⟨b, oo, none⟩) CN cpv) c (.slice pf FN cf) (.slice (some ⟨b2, o2, none⟩) MN cm) FB) 100)) :: [(bm, (.cells #[.string m.name, .slice pp PN cp, .slice pb BN cb] 41)), (bc, (.cells #[.string c.name, .bool c.actor, .slice pf FN cf, .slice (some ⟨b2, o2, none⟩) MN cm] 36)), (w.heap.size, (.cells #[.slice (some ⟨b, oo, none⟩) CN cpv] 24))]) FB (fun t => if t = 5 then decide (8 < PN ∨ 30 < PN + LN) else (fun t => if t = 4 then decide (gi < k) else false) t) (.slice pu ln2 cu) rws wx))
                case first =>
                  have p5 := HG4.out.st.cell (b := P) (j := 5) (cs := finCells (.slice (some ⟨b, oo, none⟩) CN cpv) c (.slice pf FN cf) (.slice (some ⟨b2, o2, none⟩) MN cm) FB) (u := .slice (some ⟨FB, 0, none⟩) 13 13) (t := 100) (List.mem_cons_self ..) rfl
                  have d1 := HG4.out.st.cell (b := bm) (j := 1) (cs := #[.string m.name, .slice pp PN cp, .slice pb BN cb]) (u := .slice pp PN cp) (t := 41) (List.mem_cons_of_mem _ (List.mem_cons_self ..)) rfl
                  have d2 := HG4.out.st.cell (b := bm) (j := 2) (cs := #[.string m.name, .slice pp PN cp, .slice pb BN cb]) (u := .slice pb BN cb) (t := 41) (List.mem_cons_of_mem _ (List.mem_cons_self ..)) rfl
                  have f5 := HG4.out.fcell (k := 5) (by omega)
                  have g5 := HG4.out.free 5
                  by_cases h8 : 8 < PN
                  · have H8 := Lib.hid h8
                    have HD : Hid (decide (8 < PN ∨ 30 < PN + LN) = true) := by show _ = _; exact decide_eq_true (Or.inl h8)
                    clear h8
                    go_wp2_with fail
                    refine wp_region_still_tail 19 (by kernel_rfl) (by kernel_rfl) ?_
                    simp only [List.take_succ_cons, List.take_zero, List.drop_succ_cons, List.drop_zero]
                    iterate 9 still_step
                    iterate 8 (refine wpStill_step (fun K hK => ?_); go_simp; rw [if_neg (show ¬ (PN : Int) ≤ 8 by have := H8.out; omega)]; refine hK _ ?_; clear hK K)
                    have h8b : decide (8 < (PN : Int)) = true := decide_eq_true (by have := H8.out; omega)
                    still_step
                    still_step
                    refine wpStill_nil ?_
                    change wpList _ _ _ _ _ w6.drew
                    have HEd := Lib.hid (HG4.out.keep (Below.refl _ _).drew)
                    obtain ⟨wd, hwd⟩ : ∃ wd, wd = w6.drew := ⟨_, rfl⟩
                    rw [← hwd] at HEd ⊢
                    clear hwd p5 d1 d2 f5 g5
                    have f5 := HEd.out.fcell (k := 5) (by omega)
                    have g5 := HEd.out.free 5
                    go_wp2_with fail
                    go_meet
                    exact Lib.hid ((HEd.out.set true (k := 5) (by omega)).congr (fun t => by rw [HD.out]))
                  · have h8b : decide (8 < (PN : Int)) = false := decide_eq_false (by omega)
                    have h8c : (PN : Int) ≤ 8 := by omega
                    have hs : IntKind.i64.wrap ((PN : Int) + (LN : Int)) = (PN : Int) + (LN : Int) := IntWalk.i64_in _ (by omega)
                    have HD : Hid (decide (8 < PN ∨ 30 < PN + LN) = decide (30 < (PN : Int) + (LN : Int))) := by show _ = _; rw [Bool.eq_iff_iff, decide_eq_true_eq, decide_eq_true_eq]; omega
                    clear h8
                    obtain ⟨OR, hOR⟩ : ∃ q : World → Prop, q = fun W => (GSt w ((P, (.cells (finCells (.slice (some ⟨b, oo, none⟩) CN cpv) c (.slice pf FN cf) (.slice (some ⟨b2, o2, none⟩) MN cm) FB) 100)) :: [(bm, (.cells #[.string m.name, .slice pp PN cp, .slice pb BN cb] 41)), (bc, (.cells #[.string c.name, .bool c.actor, .slice pf FN cf, .slice (some ⟨b2, o2, none⟩) MN cm] 36)), (w.heap.size, (.cells #[.slice (some ⟨b, oo, none⟩) CN cpv] 24))]) FB (fun t => if t = 4 then decide (gi < k) else false) (.slice pu ln2 cu) rws W ∨ GSt w ((P, (.cells (finCells (.slice (some ⟨b, oo, none⟩) CN cpv) c (.slice pf FN cf) (.slice (some ⟨b2, o2, none⟩) MN cm) FB) 100)) :: [(bm, (.cells #[.string m.name, .slice pp PN cp, .slice pb BN cb] 41)), (bc, (.cells #[.string c.name, .bool c.actor, .slice pf FN cf, .slice (some ⟨b2, o2, none⟩) MN cm] 36)), (w.heap.size, (.cells #[.slice (some ⟨b, oo, none⟩) CN cpv] 24))]) FB (fun t => if t = 5 then decide (8 < PN ∨ 30 < PN + LN) else (fun t => if t = 4 then decide (gi < k) else false) t) (.slice pu ln2 cu) rws W) := ⟨_, rfl⟩
                    have KEEP : Hid (∀ W, OR W → W.cell? ⟨P, 5, none⟩ = some (.slice (some ⟨FB, 0, none⟩) 13 13) ∧ W.cell? ⟨bm, 1, none⟩ = some (.slice pp PN cp) ∧ W.cell? ⟨bm, 2, none⟩ = some (.slice pb BN cb) ∧ W.frozen? ⟨FB, 5, none⟩ = false ∧ W.cell? ⟨FB, 5, none⟩ = some (.bool (boolAt W FB 5)) ∧ Hid (OR W)) := by
                      intro W h
                      have h2 := h
                      rw [hOR] at h
                      rcases h with h | h
                      · exact ⟨h.st.cell (b := P) (j := 5) (cs := finCells (.slice (some ⟨b, oo, none⟩) CN cpv) c (.slice pf FN cf) (.slice (some ⟨b2, o2, none⟩) MN cm) FB) (t := 100) (List.mem_cons_self ..) rfl, h.st.cell (b := bm) (j := 1) (cs := #[.string m.name, .slice pp PN cp, .slice pb BN cb]) (t := 41) (List.mem_cons_of_mem _ (List.mem_cons_self ..)) rfl, h.st.cell (b := bm) (j := 2) (cs := #[.string m.name, .slice pp PN cp, .slice pb BN cb]) (t := 41) (List.mem_cons_of_mem _ (List.mem_cons_self ..)) rfl, h.free 5, h.bcell (by omega), Lib.hid h2⟩
                      · exact ⟨h.st.cell (b := P) (j := 5) (cs := finCells (.slice (some ⟨b, oo, none⟩) CN cpv) c (.slice pf FN cf) (.slice (some ⟨b2, o2, none⟩) MN cm) FB) (t := 100) (List.mem_cons_self ..) rfl, h.st.cell (b := bm) (j := 1) (cs := #[.string m.name, .slice pp PN cp, .slice pb BN cb]) (t := 41) (List.mem_cons_of_mem _ (List.mem_cons_self ..)) rfl, h.st.cell (b := bm) (j := 2) (cs := #[.string m.name, .slice pp PN cp, .slice pb BN cb]) (t := 41) (List.mem_cons_of_mem _ (List.mem_cons_self ..)) rfl, h.free 5, h.bcell (by omega), Lib.hid h2⟩
                    have KST : Hid (∀ W, OR W → GSt w ((P, (.cells (finCells (.slice (some ⟨b, oo, none⟩) CN cpv) c (.slice pf FN cf) (.slice (some ⟨b2, o2, none⟩) MN cm) FB) 100)) :: [(bm, (.cells #[.string m.name, .slice pp PN cp, .slice pb BN cb] 41)), (bc, (.cells #[.string c.name, .bool c.actor, .slice pf FN cf, .slice (some ⟨b2, o2, none⟩) MN cm] 36)), (w.heap.size, (.cells #[.slice (some ⟨b, oo, none⟩) CN cpv] 24))]) FB (fun t => if t = 5 then decide (8 < PN ∨ 30 < PN + LN) else (fun t => if t = 4 then decide (gi < k) else false) t) (.slice pu ln2 cu) rws (W.setCell ⟨FB, 5, none⟩ (.bool (decide (30 < (PN : Int) + (LN : Int)))))) := by
                      intro W h
                      rw [hOR] at h
                      rcases h with h | h
                      · exact (h.set _ (k := 5) (by omega)).congr (fun t => by rw [HD.out])
                      · refine (h.set _ (k := 5) (by omega)).congr (fun t => ?_)
                        by_cases e : t = 5
                        · rw [if_pos e, if_pos e, HD.out]
                        · rw [if_neg e]
                    have KS2 : Hid (∀ W, OR W → OR (W.setCell ⟨FB, 5, none⟩ (.bool (decide (30 < (PN : Int) + (LN : Int)))))) := fun W h => by have := KST.out W h; rw [hOR]; exact Or.inr this
                    have KB : Hid (∀ W, OR W → Below w.heap.size w W) := fun W h => by rw [hOR] at h; exact h.elim (fun h => h.st.below) (fun h => h.st.below)
                    have KK : Hid (∀ W W', OR W → Below W.heap.size W W' → OR W') := fun W W' h hb => by rw [hOR] at h ⊢; exact h.elim (fun h => Or.inl (h.keep hb)) (fun h => Or.inr (h.keep hb))
                    have HO1 : Hid (OR w6) := by show OR w6; rw [hOR]; exact Or.inl HG4.out
                    have HO2 : Hid (OR w6.drew) := KK.out _ _ HO1.out (Below.refl _ _).drew
                    clear p5 d1 d2 f5 g5 hOR
                    go_wp2_with fail
                    go_region_held3 (fun w' => w'.cell? ⟨P, 5, none⟩ = some (.slice (some ⟨FB, 0, none⟩) 13 13) ∧ w'.cell? ⟨bm, 1, none⟩ = some (.slice pp PN cp) ∧ w'.cell? ⟨bm, 2, none⟩ = some (.slice pb BN cb) ∧ w'.frozen? ⟨FB, 5, none⟩ = false ∧ w'.cell? ⟨FB, 5, none⟩ = some (.bool (boolAt w' FB 5)) ∧ Hid (OR w')) (first | with_reducible exact KEEP.out _ (KK.out _ _ (gor (by assumption)) hb) | with_reducible exact KEEP.out _ (KS2.out _ (gor (by assumption))) | with_reducible exact KEEP.out _ HO1.out | with_reducible exact KEEP.out _ HO2.out) (first | (go_at_call 63; (with_reducible refine (KL1.out _ (KB.out _ (gor (by assumption)))).mono ?_); rintro e w' ⟨rfl, hb⟩))
                    all_goals
                      clear hs
                      go_wp2_with fail
                      go_meet
                      exact Lib.hid (KST.out _ (KK.out _ _ HO2.out hb))
                case rest =>
                  have HG5 := hcut
                  clear hcut HG4
                  skip
                  go_upto_region 21 with fail
                  go_cut [] (fun wx => Hid (GSt w ((P, (.cells (finCells (.slice (some ⟨b, oo, none⟩) CN cpv) c (.slice pf FN cf) (.slice (some ⟨b2, o2, none⟩) MN cm) FB) 100)) :: [(bm, (.cells #[.string m.name, .slice pp PN cp, .slice pb BN cb] 41)), (bc, (.cells #[.string c.name, .bool c.actor, .slice pf FN cf, .slice (some ⟨b2, o2, none⟩) MN cm] 36)), (w.heap.size, (.cells #[.slice (some ⟨b, oo, none⟩) CN cpv] 24))]) FB (fun t => if t = 6 then Ck.twice m.params else (fun t => if t = 5 then decide (8 < PN ∨ 30 < PN + LN) else (fun t => if t = 4 then decide (gi < k) else false) t) t) (.slice pu ln2 cu) rws wx))
                  case first =>
                    have p5 := HG5.out.st.cell (b := P) (j := 5) (cs := finCells (.slice (some ⟨b, oo, none⟩) CN cpv) c (.slice pf FN cf) (.slice (some ⟨b2, o2, none⟩) MN cm) FB) (u := .slice (some ⟨FB, 0, none⟩) 13 13) (t := 100) (List.mem_cons_self ..) rfl
                    have d1 := HG5.out.st.cell (b := bm) (j := 1) (cs := #[.string m.name, .slice pp PN cp, .slice pb BN cb]) (u := .slice pp PN cp) (t := 41) (List.mem_cons_of_mem _ (List.mem_cons_self ..)) rfl
                    have f6 := HG5.out.fcell (k := 6) (by omega)
                    have g6 := HG5.out.free 6
                    go_wp2_with fail
                    go_region_with ((go_at_call 61; refine (KR1.out _ (HG5.out.st.below.drew)).mono ?_; rintro e w7 ⟨rfl, hb7⟩; have HGc := Lib.hid ((HG5.out.keep (Below.refl _ _).drew).keep hb7); have p5' := HGc.out.st.cell (b := P) (j := 5) (cs := finCells (.slice (some ⟨b, oo, none⟩) CN cpv) c (.slice pf FN cf) (.slice (some ⟨b2, o2, none⟩) MN cm) FB) (u := .slice (some ⟨FB, 0, none⟩) 13 13) (t := 100) (List.mem_cons_self ..) rfl; have d1' := HGc.out.st.cell (b := bm) (j := 1) (cs := #[.string m.name, .slice pp PN cp, .slice pb BN cb]) (u := .slice pp PN cp) (t := 41) (List.mem_cons_of_mem _ (List.mem_cons_self ..)) rfl; have d2' := HGc.out.st.cell (b := bm) (j := 2) (cs := #[.string m.name, .slice pp PN cp, .slice pb BN cb]) (u := .slice pb BN cb) (t := 41) (List.mem_cons_of_mem _ (List.mem_cons_self ..)) rfl; have f9 := HGc.out.fcell (k := 6) (by omega); have g9 := HGc.out.free 6; clear hb7))
                    all_goals
                      go_wp2_with fail
                      go_meet
                      exact Lib.hid (HGc.out.set _ (k := 6) (by omega))
                  case rest =>
                    have HG6 := hcut
                    clear hcut HG5
                    have p5 := HG6.out.st.cell (b := P) (j := 5) (cs := finCells (.slice (some ⟨b, oo, none⟩) CN cpv) c (.slice pf FN cf) (.slice (some ⟨b2, o2, none⟩) MN cm) FB) (u := .slice (some ⟨FB, 0, none⟩) 13 13) (t := 100) (List.mem_cons_self ..) rfl
                    have d1 := HG6.out.st.cell (b := bm) (j := 1) (cs := #[.string m.name, .slice pp PN cp, .slice pb BN cb]) (u := .slice pp PN cp) (t := 41) (List.mem_cons_of_mem _ (List.mem_cons_self ..)) rfl
                    have d2 := HG6.out.st.cell (b := bm) (j := 2) (cs := #[.string m.name, .slice pp PN cp, .slice pb BN cb]) (u := .slice pb BN cb) (t := 41) (List.mem_cons_of_mem _ (List.mem_cons_self ..)) rfl
                    go_wp2_with fail
                    refine (stmtsR_any w cs (.slice (some ⟨b, oo, none⟩) CN cpv) HH.out c (.slice pf FN cf) (.slice (some ⟨b2, o2, none⟩) MN cm) HSF.out HSMm.out P FB HG6.out.hF _ m.body _ _ _ _ _ (Nat.le_refl _) HVB.out HSB.out HG6.out.st.below ⟨(HG6.out.st.kept _ (List.mem_cons_self ..)).1, HG6.out.fnd⟩ (HSP.out.keep HG6.out.st.below) HNL.out).mono ?_
                    rintro e w9 ⟨rfl, hP9, hg9⟩
                    have HG7 := Lib.hid (HG6.out.grow hP9.fnd hg9)
                    clear hP9 hg9 p5 d1 d2 HG6
                    have p5 := HG7.out.st.cell (b := P) (j := 5) (cs := finCells (.slice (some ⟨b, oo, none⟩) CN cpv) c (.slice pf FN cf) (.slice (some ⟨b2, o2, none⟩) MN cm) FB) (u := .slice (some ⟨FB, 0, none⟩) 13 13) (t := 100) (List.mem_cons_self ..) rfl
                    go_wp2_with fail
                    refine (atR_any FB _ i (some k) (k : Int) rfl _ HG7.out.fnd).mono ?_
                    rintro e w10 ⟨v10, rfl, ho10, hb10⟩
                    have HF8 : Hid (GS0 w [(bc, (.cells #[.string c.name, .bool c.actor, .slice pf FN cf, .slice (some ⟨b2, o2, none⟩) MN cm] 36)), (w.heap.size, (.cells #[.slice (some ⟨b, oo, none⟩) CN cpv] 24))] (.slice pu ln2 cu) rws w10) := Lib.hid ((HG7.out.st.keep hb10).less (fun x hx => List.mem_cons_of_mem _ (List.mem_cons_of_mem _ hx)))
                    rw [found_congr (g := Ck.faultM cs c k m) (fun t => by show ((if t = 6 then _ else if t = 5 then _ else if t = 4 then _ else false) || _) = _; rw [mth_eq, ← HGI.out, ← HPN.out, ← HLN.out]; rfl)] at ho10
                    have HO10 := Lib.hid ho10
                    have hal := atRow_found i (some k) (Ck.faultM cs c k m)
                    obtain ⟨p10, k10, rfl⟩ := own_form ho10
                    clear ho10 hb10 p5 HG7
                    obtain ⟨ln1, hln1'⟩ : ∃ q, (atRow i (some k) (Ck.found (Ck.faultM cs c k m))).length = q := ⟨_, rfl⟩
                    have HLN1 := Lib.hid hln1'
                    rw [hln1'] at HO10 hal ⊢
                    clear hln1'
                    go_wp2_with (at_builtin; refine wpList_append_row _ rfl _ _ 58 rfl w.heap.size 62 i0 (.agg #[.int .i64 0, .int .i64 0, .int .i64 0]) 3 24 Tryz.underlying58 hi0 hz0 hz1 hz2 rfl (by decide) _ _ _ rfl HF8.out.own _ _ _ _ rfl HO10.out (fRow_one _) (by rw [HLN2.out]; unfold maxLen; omega) (by rw [HLN2.out]; omega) HF8.out.below.size ?_; intro v11 w11 ho11 hg11; have HF9 := Lib.hid (HF8.out.app (r := atRow i (some k) (Ck.found (Ck.faultM cs c k m))) (by rw [HLN2.out, HLN1.out]) ho11 hg11); clear ho11 hg11)
                    clear HF8 HO10
                    go_roundg (MN - (k + 1))
                    case measure => omega
                    case rel =>
                      refine ⟨k + 1, by go_num, by omega, rfl, Lib.hid ?_⟩
                      have e : r1 ++ Ck.faultsM cs i c (c.methods.take (k + 1)) 0 = rws ++ atRow i (some k) (Ck.found (Ck.faultM cs c k m)) := by rw [take_get HY.out, faultsM_snoc, ← List.append_assoc, HRW.out, List.length_take, HMN.out, Nat.min_eq_left hk, Nat.zero_add]
                      rw [e]
                      exact HF9.out
            · obtain rfl : k = MN := by omega
              have hfull : c.methods.take k = c.methods := List.take_of_length_le (by rw [HMN.out]; exact Nat.le_refl _)
              rw [hfull] at HMT
              have HMTE := Lib.hid HMT.out
              go_wp2_with fail
              go_roundg (CN - (i + 1))
              case measure => omega
              case rel =>
                refine ⟨i + 1, by go_num, by omega, rfl, Lib.hid ?_⟩
                have e : Ck.faultsC cs (cs.take (i + 1)) 0 = r1 ++ Ck.faultsM cs i c c.methods 0 := by rw [take_get HX.out, faultsC_snoc, List.length_take, HCN.out, Nat.min_eq_left hi, Nat.zero_add, HR0.out, ← List.append_assoc, HR1.out]
                rw [e]
                exact HMTE.out.less (fun x hx => List.mem_cons_of_mem _ hx)
    · go_wp2_with fail
      go_ret
      have hfull : cs.take i = cs := List.take_of_length_le (by rw [HCN.out]; omega)
      have h9 := HST.out.own
      rw [hfull] at h9
      exact ⟨_, rfl, h9, HST.out.below⟩
end Go.Proofs.YtdafdbjdnebnfaaGreatDoor
