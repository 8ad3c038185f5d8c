/-
  Several texts in one: SyClassA, SyClassB, SyClass.
-/
import Derived.Test.YtlgfickhkejdjaaGreatDoorMSyStmt
namespace Go.Proofs.YtlgfickhkejdjaaGreatDoor
open Go.RowKit Go.Maps

theorem join_commas : ∀ l : List (List UInt8), Lib.join l [44, 32] = Sy.commas l
  | [] => rfl
  | [x] => by simp [Lib.join, Sy.commas]
  | x :: y :: r => by rw [Sy.commas, ← join_commas (y :: r)]; simp [Lib.join]
theorem join_any (v : Value) (ps : List ByteArray) (w : World) (h : SlStr w v ps) (hl : (Sy.commas (ps.map (·.data.toList))).length ≤ 140737488355328) (hn : ps.length ≤ 1000000) :
    Calls Tryz.prog 95 #[v, .string ⟨#[44, 32]⟩] w fun e w' => e = .returned (.string ⟨(Sy.commas (ps.map (·.data.toList))).toArray⟩) ∧ Below w.heap.size w w' := by
  obtain ⟨p, c, rfl, _, hcap, hx⟩ := h
  cases ps with
  | nil =>
    refine (Tryz.strings_Join_none p c ⟨#[44, 32]⟩ w).mono ?_
    rintro e w' ⟨rfl, rfl⟩
    exact ⟨rfl, Below.refl _ _⟩
  | cons s r =>
    obtain ⟨_, b, o, rfl, hb, _⟩ := hx 0 s rfl
    have h1 := Tryz.strings_Join b o c (s :: r) ⟨#[44, 32]⟩ w (fun j x hj => by
      obtain ⟨_, b', o', e, _, h2⟩ := hx j x hj
      simp only [Option.some.injEq, Addr.mk.injEq] at e
      obtain ⟨rfl, rfl, _⟩ := e
      exact h2) hb (by omega) (hcap (by simp)).1 (by rw [show (⟨#[44, 32]⟩ : ByteArray).data.toList = [44, 32] from rfl, join_commas]; exact hl)
    rw [show (⟨#[44, 32]⟩ : ByteArray).data.toList = [44, 32] from rfl, join_commas] at h1
    exact h1
end Go.Proofs.YtlgfickhkejdjaaGreatDoor

namespace Go.Proofs.YtlgfickhkejdjaaGreatDoor
open Go.RowKit Go.Maps

theorem fl_take {α : Type} (g : α → List UInt8) {ls : List α} {j : Nat} {s : α} (h : ls[j]? = some s) : ((ls.take (j + 1)).map g).flatten = ((ls.take j).map g).flatten ++ g s := by
  rw [List.take_add_one, h]; simp
theorem fl_le {α : Type} (g : α → List UInt8) (ls : List α) (j : Nat) : ((ls.take j).map g).flatten.length ≤ (ls.map g).flatten.length := by
  have h : (ls.map g).flatten = ((ls.take j).map g).flatten ++ ((ls.drop j).map g).flatten := by rw [← List.flatten_append, ← List.map_append, List.take_append_drop]
  rw [h, List.length_append]; omega
theorem SlStr.get {w : World} {p : Option Addr} {n c : Nat} {l : List ByteArray} (h : SlStr w (.slice p n c) l) {j : Nat} {s : ByteArray} (hj : l[j]? = some s) :
    ∃ b o, p = some ⟨b, o, none⟩ ∧ b < w.heap.size ∧ w.cell? ⟨b, o + j, none⟩ = some (.string s) := by
  obtain ⟨p', c', e, _, _, hx⟩ := h
  cases e
  obtain ⟨_, b, o, h2, h3, h4⟩ := hx j s hj
  exact ⟨b, o, h2, h3, h4⟩
theorem CellsM.keep {w w' : World} {b o : Nat} {m : Tr.M} {x y : Value} (h : CellsM w b o m x y) (hb : Below w.heap.size w w') : CellsM w' b o m x y :=
  ⟨cell_keep' hb h.1, cell_keep' hb h.2.1, cell_keep' hb h.2.2⟩
def clCells (nm : ByteArray) (act : Bool) (x y : Value) : Array Value := #[.string nm, .bool act, x, y]

set_option maxRecDepth 100000 in
set_option maxHeartbeats 8000000 in
theorem classIn_any {w0 : World} (hE : PrEnv w0) (c : Tr.C) (hv : ∀ m ∈ c.methods, Tr.validSs m.body = true) (hd : ∀ m ∈ c.methods, Tr.S.deep.deeps m.body ≤ 900000 ∧ m.params.length ≤ 1000000) (fp : Option Addr) (FN fc : Nat) (mp : Option Addr) (MN mc : Nat) (hFN : c.fields.length = FN) (hMN : c.methods.length = MN)
    (hF : SlStr w0 (.slice fp FN fc) c.fields) (hM : SlM w0 (.slice mp MN mc) c.methods) (cb pb B b : Nat) (l : List UInt8) (w : World) (hI : PrIn w0 B b l ((1 : Nat) : Int) w)
    (hcb : w.heap[cb]? = some (.cells (clCells c.name c.actor (.slice fp FN fc) (.slice mp MN mc)) 52 (0, 0))) (hpb : w.heap[pb]? = some (.cells #[.pointer (some ⟨b, 0, none⟩)] 62 (0, 0))) (hpbb : pb ≠ b) (hcbb : cb ≠ b)
    (hlen : l.length + ((c.fields.map Sy.fieldT).flatten.length + (c.methods.map Sy.methodT).flatten.length) ≤ 140737488355328) :
    Calls Tryz.prog 94 #[.pointer (some ⟨cb, 0, none⟩), .pointer (some ⟨pb, 0, none⟩)] w (PrPost B b l ((c.fields.map Sy.fieldT).flatten ++ (c.methods.map Sy.methodT).flatten) ((1 : Nat) : Int) w) := by
  have e2 := cell_of_blkP hcb (j := 2) (u := .slice fp FN fc) rfl
  have hf6 : FN ≤ 9223372036854775807 := by
    have := hF.len
    rw [hFN] at this
    unfold maxLen at this
    exact this
  have hm6 : MN ≤ 9223372036854775807 := by
    have := hM.len
    rw [hMN] at this
    unfold maxLen at this
    exact this
  have HI := Lib.hid hI
  have HF := Lib.hid hF
  have HM := Lib.hid hM
  have HFN := Lib.hid hFN
  have HMN := Lib.hid hMN
  have HD := Lib.hid hd
  have HV := Lib.hid hv
  have HE := Lib.hid hE
  have HL := Lib.hid hlen
  have HP := Lib.hid hpb
  have HCB := Lib.hid hcb
  clear hI hF hM hFN hMN hd hv hE hlen hpb hcb
  go_enter Tryz.func94, Tryz.ntmps94
  go_wp2_with fail
  clear e2
  go_loopg [3, 9] FN (fun g s3 s9 wr => ∃ j : Nat, s9 = .int .i64 j ∧ j ≤ FN ∧ g = FN - j ∧ Hid (PrIn w0 B b (l ++ ((c.fields.take j).map Sy.fieldT).flatten) ((1 : Nat) : Int) wr) ∧ Hid (Pk B b w wr))
  case atStart => exact ⟨0, rfl, Nat.zero_le _, rfl, by show PrIn _ _ _ _ _ _; rw [List.take_zero]; rw [show ((([] : List ByteArray).map Sy.fieldT).flatten : List UInt8) = [] from rfl, List.append_nil]; exact HI.out, Pk.refl _ _ _⟩
  case round =>
    obtain ⟨j, rfl, hj, rfl, HST, HK⟩ := hrel
    by_cases hlt : j < FN
    · obtain ⟨s, hs⟩ : ∃ s, c.fields[j]? = some s := ⟨_, List.getElem?_eq_getElem (by rw [HFN.out]; exact hlt)⟩
      obtain ⟨b', o', rfl, _, hc⟩ := HF.out.get hs
      have x0 := cell_keep' HST.out.base hc
      have htk := fl_take Sy.fieldT hs
      have hle := fl_le Sy.fieldT c.fields (j + 1)
      rw [htk, List.length_append] at hle
      have KW := Lib.hid (word_any HST.out [⟨#[118, 97, 114, 32]⟩, s, ⟨#[59]⟩] 3 #[.string ⟨#[118, 97, 114, 32]⟩, .string s, .string ⟨#[59]⟩] ([118, 97, 114, 32] ++ s.data.toList ++ [59]) rfl rfl (by simp [flatB]) (by decide) (by have := HL.out; show _ + (Sy.fieldT s).length ≤ _; rw [List.length_append]; omega) (by decide))
      have zp := cell_of_blkP (HK.out.box HP.out hpbb (by decide)) (j := 0) (u := .pointer (some ⟨b, 0, none⟩)) rfl
      have HTK := Lib.hid htk
      have b3 : (j : Int) < (FN : Int) := by omega
      have hl0 := cell_lt' x0
      clear hs hc htk hle
      go_wp2_with fail
      refine KW.out.mono ?_
      rintro e' w5 ⟨rfl, hs5, hk5⟩
      have HI5 := Lib.hid (HST.out.next hs5 hk5)
      have HK5 := Lib.hid (HK.out.trans hk5)
      clear hs5 hk5 x0 zp hl0 KW
      go_wp2_with fail
      go_roundg (FN - (j + 1))
      case measure => omega
      case rel =>
        refine ⟨j + 1, by go_num, by omega, rfl, ?_, HK5⟩
        have h1 := HI5.out
        rw [HTK.out]
        rw [List.append_assoc] at h1
        exact h1
    · obtain rfl : j = FN := by omega
      have hfull : c.fields.take j = c.fields := List.take_of_length_le (by rw [HFN.out]; exact Nat.le_refl _)
      rw [hfull] at HST
      clear hfull
      have e3 := cell_of_blkP (HK.out.box HCB.out hcbb (by decide)) (j := 3) (u := .slice mp MN mc) rfl
      go_wp2_with fail
      clear e3
      obtain ⟨l1, hl1⟩ : ∃ q, l ++ (c.fields.map Sy.fieldT).flatten = q := ⟨_, rfl⟩
      have hll : l1.length + (c.methods.map Sy.methodT).flatten.length ≤ 140737488355328 := by have := HL.out; rw [← hl1, List.length_append]; omega
      rw [hl1] at HST
      have HLL := Lib.hid hll
      have HL1 := Lib.hid hl1
      clear hll hl1
      go_loopg [5, 21] MN (fun g s5 s21 wq => ∃ i : Nat, s21 = .int .i64 i ∧ i ≤ MN ∧ g = MN - i ∧ Hid (PrIn w0 B b (l1 ++ ((c.methods.take i).map Sy.methodT).flatten) ((1 : Nat) : Int) wq) ∧ Hid (Pk B b w wq))
      case atStart => exact ⟨0, rfl, Nat.zero_le _, rfl, by show PrIn _ _ _ _ _ _; rw [List.take_zero]; rw [show ((([] : List Tr.M).map Sy.methodT).flatten : List UInt8) = [] from rfl, List.append_nil]; exact HST.out, HK⟩
      case round =>
        obtain ⟨i, rfl, hi, rfl, HSQ, HKQ⟩ := hrel
        by_cases hlt2 : i < MN
        · obtain ⟨m, hm⟩ : ∃ m, c.methods[i]? = some m := ⟨_, List.getElem?_eq_getElem (by rw [HMN.out]; exact hlt2)⟩
          obtain ⟨b', o', vx, vy, rfl, _, hc, _, hpx, hsy⟩ := HM.out.get hm
          obtain ⟨px, cx, rfl⟩ := hpx.form
          obtain ⟨py, cy, rfl, _⟩ := hsy.form
          obtain ⟨XN, hXN⟩ : ∃ q, m.params.length = q := ⟨_, rfl⟩
          obtain ⟨YN, hYN⟩ : ∃ q, m.body.length = q := ⟨_, rfl⟩
          rw [hXN] at hpx hc
          rw [hYN] at hsy hc
          obtain ⟨x0, x1, x2⟩ := CellsM.keep hc HSQ.out.base
          have hmm := List.mem_of_getElem? hm
          have htk := fl_take Sy.methodT hm
          have hle := fl_le Sy.methodT c.methods (i + 1)
          rw [htk, List.length_append] at hle
          obtain ⟨JT, hJT⟩ : ∃ q, Sy.commas (m.params.map (·.data.toList)) = q := ⟨_, rfl⟩
          have hmt : Sy.methodT m = Sy.line 1 ([111, 110, 32] ++ m.name.data.toList ++ [40] ++ JT ++ [41, 32, 123]) ++ (Sy.stmts 2 m.body ++ Sy.line 1 [125]) := by rw [← hJT, ← List.append_assoc]; rfl
          have hl3 : (Sy.methodT m).length = (Sy.line 1 ([111, 110, 32] ++ m.name.data.toList ++ [40] ++ JT ++ [41, 32, 123])).length + ((Sy.stmts 2 m.body).length + (Sy.line 1 [125]).length) := by rw [hmt, List.length_append, List.length_append]
          have hl4 : JT.length ≤ (Sy.line 1 ([111, 110, 32] ++ m.name.data.toList ++ [40] ++ JT ++ [41, 32, 123])).length := by unfold Sy.line; simp only [List.length_append]; omega
          obtain ⟨l2, hl2⟩ : ∃ q, l1 ++ ((c.methods.take i).map Sy.methodT).flatten = q := ⟨_, rfl⟩
          have hb2 : l2.length + ((Sy.line 1 ([111, 110, 32] ++ m.name.data.toList ++ [40] ++ JT ++ [41, 32, 123])).length + ((Sy.stmts 2 m.body).length + (Sy.line 1 [125]).length)) ≤ 140737488355328 := by have := HLL.out; rw [← hl2, List.length_append]; omega
          have HJ : Hid (∀ W, Below w0.heap.size w0 W → Calls Tryz.prog 95 #[.slice px XN cx, .string ⟨#[44, 32]⟩] W fun e w' => e = .returned (.string ⟨JT.toArray⟩) ∧ Below W.heap.size W w') := by
            intro W hb
            have h1 := join_any (.slice px XN cx) m.params W (by have h9 := hpx; rw [← hXN] at h9 ⊢; exact h9.keep hb) (by rw [hJT]; omega) (HD.out m hmm).2
            rw [hJT] at h1
            exact h1
          have HBD : Hid (∀ W l', PrIn w0 B b l' ((1 : Nat) : Int) W → l'.length + (Sy.stmts 2 m.body).length ≤ 140737488355328 → Calls Tryz.prog 96 #[.pointer (some ⟨b, 0, none⟩), .slice py YN cy] W (PrPost B b l' (Sy.stmts 2 m.body) ((1 : Nat) : Int) W)) := fun W l' h1 h2 =>
            stmts_of (stmtC HE.out (Tr.S.deep.deeps m.body)) m.body py YN cy B b l' 1 W (Nat.le_refl _) (HV.out m hmm) hYN hsy h1 (by have := (HD.out m hmm).1; omega) h2
          have HMT : Hid (((c.methods.take (i + 1)).map Sy.methodT).flatten = ((c.methods.take i).map Sy.methodT).flatten ++ (Sy.line 1 ([111, 110, 32] ++ m.name.data.toList ++ [40] ++ JT ++ [41, 32, 123]) ++ (Sy.stmts 2 m.body ++ Sy.line 1 [125]))) := by show _ = _; rw [htk, hmt]
          rw [hl2] at HSQ
          have HL2 := Lib.hid hl2
          have HB2 := Lib.hid hb2
          have b3 : (i : Int) < (MN : Int) := by omega
          have hl0 := cell_lt' x0
          have hbx := (MapKept.heap_alloc wr (.cells #[.string m.name, .slice px XN cx, .slice py YN cy] 49)).1
          have hib := HSQ.out.box (.cells #[.string m.name, .slice px XN cx, .slice py YN cy] 49)
          have hkb := HKQ.out.trans (HSQ.out.pk (.cells #[.string m.name, .slice px XN cx, .slice py YN cy] 49))
          obtain ⟨BM, hBM⟩ : ∃ q, wr.heap.size = q := ⟨_, rfl⟩
          have hne : BM ≠ b := by rw [← hBM]; exact HSQ.out.ne
          clear hm hc hpx hsy hXN hYN hmm htk hle hJT hmt hl3 hl4 hl2 hb2
          go_upto_region 8 with fail
          obtain ⟨w4, hw4⟩ : ∃ q, q = wr.alloc (.cells #[.string m.name, .slice px XN cx, .slice py YN cy] 49) := ⟨_, rfl⟩
          rw [← hw4] at hbx hib hkb ⊢
          rw [hBM] at hbx
          try rw [hBM]
          clear hw4 x0 x1 x2 hl0
          have HBX := Lib.hid hbx
          have HI4 := Lib.hid hib
          have HK4 := Lib.hid hkb
          have HP4 := Lib.hid (hkb.box HP.out hpbb (by decide))
          have y0 := cell_of_blkP hbx (j := 0) (u := .string m.name) rfl
          have y1 := cell_of_blkP hbx (j := 1) (u := .slice px XN cx) rfl
          have zp := cell_of_blkP HP4.out (j := 0) (u := .pointer (some ⟨b, 0, none⟩)) rfl
          clear hbx hib hkb
          refine wp_region_held_drew (S := fun W => W.cell? ⟨pb, 0, none⟩ = some (.pointer (some ⟨b, 0, none⟩)) ∧ W.cell? ⟨BM, 0, none⟩ = some (.string m.name) ∧ W.cell? ⟨BM, 1, none⟩ = some (.slice px XN cx) ∧ True) (by kernel_rfl) ?_ (fun hHeld => ?_)
          · exact ⟨zp, y0, y1, trivial⟩
          have HI5 := Lib.hid HI4.out.drew
          have HK5 := Lib.hid HK4.out.drew
          have HP5 : Hid (w4.drew.heap[pb]? = some (.cells #[.pointer (some ⟨b, 0, none⟩)] 62 (0, 0))) := HP4
          have HX5 : Hid (w4.drew.heap[BM]? = some (.cells #[.string m.name, .slice px XN cx, .slice py YN cy] 49 (0, 0))) := HBX
          refine wpAnyH_take (i := 0) (oi := ⟨some 25, _, _, _, _, _⟩) (v := ?_) rfl (by kernel_rfl) (by kernel_rfl) (by kernel_rfl) (fun _ _ _ h => h) (Or.inl ⟨by rfl, ?_⟩) (by assumption) ?_
          rotate_left
          · (intro w hSw; (try dsimp only at hSw); go_simp; (try with_reducible rfl))
          try simp only [Act.put, List.setIfInBounds_toArray, List.set_cons_zero, List.set_cons_succ]
          refine wpAnyH_take (i := 1) (oi := ⟨some 26, _, _, _, _, _⟩) (v := ?_) rfl (by kernel_rfl) (by kernel_rfl) (by kernel_rfl) (fun _ _ _ h => h) (Or.inl ⟨by rfl, ?_⟩) (by assumption) ?_
          rotate_left
          · (intro w hSw; (try dsimp only at hSw); go_simp; (try with_reducible rfl))
          try simp only [Act.put, List.setIfInBounds_toArray, List.set_cons_zero, List.set_cons_succ]
          refine wpAnyH_take (i := 2) (oi := ⟨some 27, _, _, _, _, _⟩) (v := ?_) rfl (by kernel_rfl) (by kernel_rfl) (by kernel_rfl) (fun _ _ _ h => h) (Or.inl ⟨by rfl, ?_⟩) (by assumption) ?_
          rotate_left
          · (intro w hSw; (try dsimp only at hSw); go_simp; (try with_reducible rfl))
          try simp only [Act.put, List.setIfInBounds_toArray, List.set_cons_zero, List.set_cons_succ]
          refine wpAnyH_take (i := 3) (oi := ⟨some 28, _, _, _, _, _⟩) (v := ?_) rfl (by kernel_rfl) (by kernel_rfl) (by kernel_rfl) (fun _ _ _ h => h) (Or.inl ⟨by rfl, ?_⟩) (by assumption) ?_
          rotate_left
          · (intro w hSw; (try dsimp only at hSw); go_simp; (try with_reducible rfl))
          try simp only [Act.put, List.setIfInBounds_toArray, List.set_cons_zero, List.set_cons_succ]
          refine wpAnyH_take (i := 4) (oi := ⟨some 29, _, _, _, _, _⟩) (v := ?_) rfl (by kernel_rfl) (by kernel_rfl) (by kernel_rfl) (fun _ _ _ h => h) (Or.inl ⟨by rfl, ?_⟩) (by assumption) ?_
          rotate_left
          · (intro w hSw; (try dsimp only at hSw); go_simp; (try with_reducible rfl))
          try simp only [Act.put, List.setIfInBounds_toArray, List.set_cons_zero, List.set_cons_succ]
          refine wpAnyH_ready (rs := [5]) (by kernel_rfl) (by simp) ?_
          refine AllReadyH.cons (o := ⟨some 30, _, _, _, _, _⟩) rfl (fun K hK => ?_) AllReadyH.nil
          go_simp
          with_reducible refine (HJ.out _ HI5.out.base).mono ?_
          rintro e w5 ⟨rfl, hb5⟩
          go_wp2_with fail
          have HI6 := Lib.hid (HI5.out.below hb5)
          have HP6 := Lib.hid ((hb5.block _ (Array.getElem?_eq_some_iff.1 HP5.out).1).trans HP5.out)
          have HX6 := Lib.hid ((hb5.block _ (Array.getElem?_eq_some_iff.1 HX5.out).1).trans HX5.out)
          have HK6 := Lib.hid (HK5.out.trans (Pk.of_below hb5 HI5.out.leB))
          refine hK.out _ _ ?_ (fun hHeld => ?_)
          · exact ⟨cell_keep' hb5 hHeld.1, cell_keep' hb5 hHeld.2.1, cell_keep' hb5 hHeld.2.2.1, trivial⟩
          clear hK K
          try simp only [Act.put, List.setIfInBounds_toArray, List.set_cons_zero, List.set_cons_succ]
          refine wpAnyH_ready (rs := [6]) (by kernel_rfl) (by simp) ?_
          refine AllReadyH.cons (o := ⟨some 31, _, _, _, _, _⟩) rfl (fun K hK => ?_) AllReadyH.nil
          go_simp
          have hb6 := below_box w5 (.cells #[.string ⟨#[111, 110, 32]⟩, .string m.name, .string ⟨#[40]⟩, .string ⟨JT.toArray⟩, .string ⟨#[41, 32, 123]⟩] 9)
          refine hK.out _ _ ?_ (fun hHeld => ?_)
          · exact ⟨cell_keep' hb6 hHeld.1, cell_keep' hb6 hHeld.2.1, cell_keep' hb6 hHeld.2.2.1, trivial⟩
          clear hK K
          try simp only [Act.put, List.setIfInBounds_toArray, List.set_cons_zero, List.set_cons_succ]
          refine wpAnyH_ready (rs := [7]) (by kernel_rfl) (by simp) ?_
          refine AllReadyH.cons (o := ⟨some 32, _, _, _, _, _⟩) rfl (fun K hK => ?_) AllReadyH.nil
          have KW := Lib.hid (word_any HI6.out [⟨#[111, 110, 32]⟩, m.name, ⟨#[40]⟩, ⟨JT.toArray⟩, ⟨#[41, 32, 123]⟩] 5 #[.string ⟨#[111, 110, 32]⟩, .string m.name, .string ⟨#[40]⟩, .string ⟨JT.toArray⟩, .string ⟨#[41, 32, 123]⟩] ([111, 110, 32] ++ m.name.data.toList ++ [40] ++ JT ++ [41, 32, 123]) rfl rfl (by simp [flatB]) (by decide) (by have := HB2.out; omega) (by decide))
          go_simp
          with_reducible refine KW.out.mono ?_
          rintro e w6 ⟨rfl, hs, hk⟩
          have HI7 := Lib.hid (HI6.out.next hs hk)
          have HK7 := Lib.hid (HK6.out.trans hk)
          have HP7 := Lib.hid (hk.box HP6.out hpbb (by decide))
          have HX7 := Lib.hid (hk.box HX6.out hne (by decide))
          have u0 := cell_of_blkP HP7.out (j := 0) (u := .pointer (some ⟨b, 0, none⟩)) rfl
          have u1 := cell_of_blkP HX7.out (j := 0) (u := .string m.name) rfl
          have u2 := cell_of_blkP HX7.out (j := 1) (u := .slice px XN cx) rfl
          go_wp2_with fail
          refine hK.out _ _ ?_ (fun hHeld => ?_)
          · exact ⟨u0, u1, u2, trivial⟩
          clear hK K
          try simp only [Act.put, List.setIfInBounds_toArray, List.set_cons_zero, List.set_cons_succ]
          refine wpAnyH_done (by kernel_rfl) ?_ _
          clear hHeld zp y0 y1 u1 u2 hs hk KW hb5 hb6
          have u3 := cell_of_blkP HX7.out (j := 2) (u := .slice py YN cy) rfl
          have KB := Lib.hid (HBD.out w6 _ HI7.out (by have := HB2.out; rw [List.length_append]; omega))
          go_wp2_with fail
          refine KB.out.mono ?_
          rintro e' w7 ⟨rfl, hs, hk⟩
          have HI8 := Lib.hid (HI7.out.next hs hk)
          have HK8 := Lib.hid (HK7.out.trans hk)
          have HP8 := Lib.hid (hk.box HP7.out hpbb (by decide))
          have v0 := cell_of_blkP HP8.out (j := 0) (u := .pointer (some ⟨b, 0, none⟩)) rfl
          clear hs hk u0 u3 KB
          have KW := Lib.hid (word_any HI8.out [⟨#[125]⟩] 1 #[.string ⟨#[125]⟩] [125] rfl rfl (by simp [flatB]) (by decide) (by have := HB2.out; rw [List.length_append, List.length_append]; omega) (by decide))
          go_wp2_with fail
          refine KW.out.mono ?_
          rintro e' w8 ⟨rfl, hs, hk⟩
          have HI9 := Lib.hid (HI8.out.next hs hk)
          have HK9 := Lib.hid (HK8.out.trans hk)
          clear hs hk v0 KW
          go_wp2_with fail
          go_roundg (MN - (i + 1))
          case measure => omega
          case rel =>
            refine ⟨i + 1, by go_num, by omega, rfl, ?_, HK9⟩
            have h1 := HI9.out
            rw [HMT.out]
            rw [← HL2.out] at h1
            simp only [List.append_assoc] at h1 ⊢
            exact h1
        · obtain rfl : i = MN := by omega
          have hfull : c.methods.take i = c.methods := List.take_of_length_le (by rw [HMN.out]; exact Nat.le_refl _)
          rw [hfull] at HSQ
          clear hfull
          go_wp2_with fail
          go_end0
          exact ⟨rfl, by have h1 := HSQ.out.st; rw [← HL1.out, List.append_assoc] at h1; exact h1, HKQ.out⟩
end Go.Proofs.YtlgfickhkejdjaaGreatDoor

namespace Go.Proofs.YtlgfickhkejdjaaGreatDoor
open Go.RowKit Go.Maps

theorem classT_len (c : Tr.C) : (Sy.classT c).length = (Sy.line 0 ((if c.actor then [97, 99, 116, 111, 114, 32] else [114, 101, 99, 111, 114, 100, 32]) ++ c.name.data.toList ++ [32, 123])).length + ((c.fields.map Sy.fieldT).flatten.length + (c.methods.map Sy.methodT).flatten.length) + (Sy.line 0 [125]).length := by
  unfold Sy.classT
  simp only [List.length_append]
  omega
set_option maxRecDepth 100000 in
set_option maxHeartbeats 8000000 in
theorem class_any {w0 : World} (hE : PrEnv w0) (c : Tr.C) (hv : ∀ m ∈ c.methods, Tr.validSs m.body = true) (hd : ∀ m ∈ c.methods, Tr.S.deep.deeps m.body ≤ 900000 ∧ m.params.length ≤ 1000000) (fp : Option Addr) (FN fc : Nat) (mp : Option Addr) (MN mc : Nat) (hFN : c.fields.length = FN) (hMN : c.methods.length = MN)
    (hF : SlStr w0 (.slice fp FN fc) c.fields) (hM : SlM w0 (.slice mp MN mc) c.methods) (B b : Nat) (l : List UInt8) (w : World) (hI : PrIn w0 B b l ((0 : Nat) : Int) w) (hlen : l.length + (Sy.classT c).length ≤ 140737488355328) :
    Calls Tryz.prog 58 #[.pointer (some ⟨b, 0, none⟩), classV c (.slice fp FN fc) (.slice mp MN mc)] w (PrPost B b l (Sy.classT c) ((0 : Nat) : Int) w) := by
  have hlt := hI.lt
  obtain ⟨PB, hPB⟩ : ∃ q, w.heap.size = q := ⟨_, rfl⟩
  obtain ⟨w1, hw1⟩ : ∃ q, q = w.alloc (.cells #[.pointer (some ⟨b, 0, none⟩)] 62) := ⟨_, rfl⟩
  obtain ⟨w2, hw2⟩ : ∃ q, q = w1.alloc (.cells #[.string c.name, .bool c.actor, .slice fp FN fc, .slice mp MN mc] 52) := ⟨_, rfl⟩
  have hs1 : w1.heap.size = PB + 1 := by rw [hw1, ← hPB]; exact World.size_alloc _ _
  have hc1 : w1.heap[PB]? = some (.cells #[.pointer (some ⟨b, 0, none⟩)] 62 (0, 0)) := by rw [hw1, ← hPB]; exact (MapKept.heap_alloc w _).1
  have hc2 : w2.heap[w1.heap.size]? = some (.cells (clCells c.name c.actor (.slice fp FN fc) (.slice mp MN mc)) 52 (0, 0)) := by rw [hw2]; exact (MapKept.heap_alloc w1 _).1
  have hi2 : PrIn w0 B b l ((0 : Nat) : Int) w2 := by rw [hw2, hw1]; exact (hI.box _).box _
  have hk2 : Pk B b w w2 := by rw [hw2, hw1]; exact (hI.pk _).trans ((hI.box _).pk _)
  have hc1' : w2.heap[PB]? = some (.cells #[.pointer (some ⟨b, 0, none⟩)] 62 (0, 0)) := by
    have h1 := below_box w1 (.cells #[.string c.name, .bool c.actor, .slice fp FN fc, .slice mp MN mc] 52)
    rw [← hw2] at h1
    exact (h1.block _ (by omega)).trans hc1
  have HSZ2 : Hid (w2.heap.size = PB + 1 + 1) := by show _ = _; rw [hw2, World.size_alloc, hs1]
  rw [hs1] at hc2
  have hl3 := classT_len c
  have HW2 : Hid (w2 = (w.alloc (.cells #[.pointer (some ⟨b, 0, none⟩)] 62)).alloc (.cells #[.string c.name, .bool c.actor, .slice fp FN fc, .slice mp MN mc] 52)) := by show _ = _; rw [hw2, hw1]
  have HI2 := Lib.hid hi2
  have HK2 := Lib.hid hk2
  have HP := Lib.hid hc1'
  have HC := Lib.hid hc2
  have hpbb : PB ≠ b := by omega
  have hcbb : PB + 1 ≠ b := by omega
  have HIN : Hid (∀ W l', Pk B b w2 W → PrIn w0 B b l' ((1 : Nat) : Int) W → l'.length + ((c.fields.map Sy.fieldT).flatten.length + (c.methods.map Sy.methodT).flatten.length) ≤ 140737488355328 → Calls Tryz.prog 94 #[.pointer (some ⟨PB + 1, 0, none⟩), .pointer (some ⟨PB, 0, none⟩)] W (PrPost B b l' ((c.fields.map Sy.fieldT).flatten ++ (c.methods.map Sy.methodT).flatten) ((1 : Nat) : Int) W)) :=
    fun W l' hk hi hl => classIn_any hE c hv hd fp FN fc mp MN mc hFN hMN hF hM (PB + 1) PB B b l' W hi (hk.box HC.out hcbb (by decide)) (hk.box HP.out hpbb (by decide)) hpbb hcbb hl
  have HL := Lib.hid hlen
  have HL3 := Lib.hid hl3
  have HLT := Lib.hid hlt
  clear hI hFN hMN hF hM hd hv hE hw1 hw2 hs1 hc1 hc2 hi2 hk2 hc1' hlen hl3 hlt
  have x1 : w2.cell? ⟨PB + 1, 1, none⟩ = some (.bool c.actor) := cell_of_blkP HC.out (j := 1) (u := .bool c.actor) rfl
  have x0 : w2.cell? ⟨PB + 1, 0, none⟩ = some (.string c.name) := cell_of_blkP HC.out (j := 0) (u := .string c.name) rfl
  have zp := cell_of_blkP HP.out (j := 0) (u := .pointer (some ⟨b, 0, none⟩)) rfl
  have hsz : Hid (PB + 1 = w.heap.size + 1) := by show _ = _; rw [hPB]
  unfold classV
  cases hact : c.actor
  · have hct : Sy.classT c = Sy.line 0 ([114, 101, 99, 111, 114, 100, 32] ++ c.name.data.toList ++ [32, 123]) ++ (((c.fields.map Sy.fieldT).flatten ++ (c.methods.map Sy.methodT).flatten) ++ Sy.line 0 [125]) := by unfold Sy.classT; rw [hact]; simp only [List.append_assoc]; rfl
    rw [hact] at x1 HL3 HW2
    have hl3 := HL3.out
    change _ = (Sy.line 0 ([114, 101, 99, 111, 114, 100, 32] ++ c.name.data.toList ++ [32, 123])).length + _ + _ at hl3
    have hl4 : l.length + ((Sy.line 0 ([114, 101, 99, 111, 114, 100, 32] ++ c.name.data.toList ++ [32, 123])).length + ((c.fields.map Sy.fieldT).flatten.length + (c.methods.map Sy.methodT).flatten.length) + (Sy.line 0 [125]).length) ≤ 140737488355328 := by have := HL.out; omega
    have HL4 := Lib.hid hl4
    have HCT := Lib.hid hct
    have kw := (word_any HI2.out [⟨#[114, 101, 99, 111, 114, 100, 32]⟩, c.name, ⟨#[32, 123]⟩] 3 #[.string ⟨#[114, 101, 99, 111, 114, 100, 32]⟩, .string c.name, .string ⟨#[32, 123]⟩] ([114, 101, 99, 111, 114, 100, 32] ++ c.name.data.toList ++ [32, 123]) rfl rfl (by simp [flatB]) (by decide) (by omega) (by decide))
    rw [HSZ2.out] at kw
    have KW := Lib.hid kw
    clear hct hl3 hl4 kw
    rw [HW2.out] at x0 x1 zp
    go_enter Tryz.func58, Tryz.ntmps58
    go_wp2_with fail
    rw [← HW2.out]
    refine KW.out.mono ?_
    rintro e' w3 ⟨rfl, hs, hk⟩
    have HI3 := Lib.hid (HI2.out.next hs hk)
    have HK3 := Lib.hid hk
    have z3 := cell_of_blkP (hk.box HP.out hpbb (by decide)) (j := 0) (u := .pointer (some ⟨b, 0, none⟩)) rfl
    clear hs hk x0 x1 zp KW
    have KB := Lib.hid (block_any HI3.out 94 #[.pointer (some ⟨PB + 1, 0, none⟩), .pointer (some ⟨PB, 0, none⟩)] ((c.fields.map Sy.fieldT).flatten ++ (c.methods.map Sy.methodT).flatten) (by decide) (enters_of Tryz.func94 (by kernel_rfl) rfl) (fun V hk hi => HIN.out V _ (HK3.out.trans hk) hi (by have := HL4.out; rw [List.length_append]; omega)))
    go_wp2_with fail
    refine KB.out.mono ?_
    rintro e' w4 ⟨rfl, hs, hk⟩
    have HI4 := Lib.hid (HI3.out.next hs hk)
    have HK4 := Lib.hid (HK3.out.trans hk)
    have z4 := cell_of_blkP (HK4.out.box HP.out hpbb (by decide)) (j := 0) (u := .pointer (some ⟨b, 0, none⟩)) rfl
    clear hs hk z3 KB
    have KW := Lib.hid (word_any HI4.out [⟨#[125]⟩] 1 #[.string ⟨#[125]⟩] [125] rfl rfl (by simp [flatB]) (by decide) (by have := HL4.out; simp only [List.length_append]; omega) (by decide))
    go_wp2_with fail
    refine KW.out.mono ?_
    rintro e' w5 ⟨rfl, hs, hk⟩
    have HI5 := Lib.hid (HI4.out.next hs hk)
    have HK5 := Lib.hid (HK2.out.trans (HK4.out.trans hk))
    clear hs hk z4 KW
    go_wp2_with fail
    go_end0
    exact ⟨rfl, by have h1 := HI5.out.st; rw [HCT.out]; simp only [List.append_assoc] at h1 ⊢; exact h1, HK5.out⟩
  · have hct : Sy.classT c = Sy.line 0 ([97, 99, 116, 111, 114, 32] ++ c.name.data.toList ++ [32, 123]) ++ (((c.fields.map Sy.fieldT).flatten ++ (c.methods.map Sy.methodT).flatten) ++ Sy.line 0 [125]) := by unfold Sy.classT; rw [hact]; simp only [List.append_assoc]; rfl
    rw [hact] at x1 HL3 HW2
    have hl3 := HL3.out
    change _ = (Sy.line 0 ([97, 99, 116, 111, 114, 32] ++ c.name.data.toList ++ [32, 123])).length + _ + _ at hl3
    have hl4 : l.length + ((Sy.line 0 ([97, 99, 116, 111, 114, 32] ++ c.name.data.toList ++ [32, 123])).length + ((c.fields.map Sy.fieldT).flatten.length + (c.methods.map Sy.methodT).flatten.length) + (Sy.line 0 [125]).length) ≤ 140737488355328 := by have := HL.out; omega
    have HL4 := Lib.hid hl4
    have HCT := Lib.hid hct
    have kw := (word_any HI2.out [⟨#[97, 99, 116, 111, 114, 32]⟩, c.name, ⟨#[32, 123]⟩] 3 #[.string ⟨#[97, 99, 116, 111, 114, 32]⟩, .string c.name, .string ⟨#[32, 123]⟩] ([97, 99, 116, 111, 114, 32] ++ c.name.data.toList ++ [32, 123]) rfl rfl (by simp [flatB]) (by decide) (by omega) (by decide))
    rw [HSZ2.out] at kw
    have KW := Lib.hid kw
    clear hct hl3 hl4 kw
    rw [HW2.out] at x0 x1 zp
    go_enter Tryz.func58, Tryz.ntmps58
    go_wp2_with fail
    rw [← HW2.out]
    refine KW.out.mono ?_
    rintro e' w3 ⟨rfl, hs, hk⟩
    have HI3 := Lib.hid (HI2.out.next hs hk)
    have HK3 := Lib.hid hk
    have z3 := cell_of_blkP (hk.box HP.out hpbb (by decide)) (j := 0) (u := .pointer (some ⟨b, 0, none⟩)) rfl
    clear hs hk x0 x1 zp KW
    have KB := Lib.hid (block_any HI3.out 94 #[.pointer (some ⟨PB + 1, 0, none⟩), .pointer (some ⟨PB, 0, none⟩)] ((c.fields.map Sy.fieldT).flatten ++ (c.methods.map Sy.methodT).flatten) (by decide) (enters_of Tryz.func94 (by kernel_rfl) rfl) (fun V hk hi => HIN.out V _ (HK3.out.trans hk) hi (by have := HL4.out; rw [List.length_append]; omega)))
    go_wp2_with fail
    refine KB.out.mono ?_
    rintro e' w4 ⟨rfl, hs, hk⟩
    have HI4 := Lib.hid (HI3.out.next hs hk)
    have HK4 := Lib.hid (HK3.out.trans hk)
    have z4 := cell_of_blkP (HK4.out.box HP.out hpbb (by decide)) (j := 0) (u := .pointer (some ⟨b, 0, none⟩)) rfl
    clear hs hk z3 KB
    have KW := Lib.hid (word_any HI4.out [⟨#[125]⟩] 1 #[.string ⟨#[125]⟩] [125] rfl rfl (by simp [flatB]) (by decide) (by have := HL4.out; simp only [List.length_append]; omega) (by decide))
    go_wp2_with fail
    refine KW.out.mono ?_
    rintro e' w5 ⟨rfl, hs, hk⟩
    have HI5 := Lib.hid (HI4.out.next hs hk)
    have HK5 := Lib.hid (HK2.out.trans (HK4.out.trans hk))
    clear hs hk z4 KW
    go_wp2_with fail
    go_end0
    exact ⟨rfl, by have h1 := HI5.out.st; rw [HCT.out]; simp only [List.append_assoc] at h1 ⊢; exact h1, HK5.out⟩

theorem validP_bodies {cs : List Tr.C} (h : Tr.validP cs = true) : ∀ c ∈ cs, ∀ m ∈ c.methods, Tr.validSs m.body = true := by
  intro c hc m hm
  unfold Tr.validP at h
  have h1 := List.all_eq_true.1 h c hc
  unfold Tr.validC at h1
  rw [Bool.and_eq_true] at h1
  have h2 := List.all_eq_true.1 h1.2 m hm
  unfold Tr.validM at h2
  rw [Bool.and_eq_true] at h2
  exact h2.2

set_option maxRecDepth 100000 in
set_option maxHeartbeats 8000000 in
theorem program_any (v : Value) (cs : List Tr.C) (w : World) (hE : SyEnv w) (hfit : Tr.fitP cs) (hS : SlC w v cs) (hd : ∀ c ∈ cs, ∀ m ∈ c.methods, Tr.S.deep.deeps m.body ≤ 900000 ∧ m.params.length ≤ 1000000) (hlen : (Sy.progT cs).length ≤ 140737488355328) :
    Calls Tryz.prog 22 #[.agg #[v]] w fun r w' => r = .returned (.string ⟨(Sy.programText cs).toArray⟩) ∧ Below w.heap.size w w' := by
  obtain ⟨p, c, rfl⟩ := hS.form
  have hn6 : cs.length ≤ 9223372036854775807 := by
    have := hS.len
    unfold maxLen at this
    exact this
  obtain ⟨N, hN⟩ : ∃ q, cs.length = q := ⟨_, rfl⟩
  rw [hN] at hS hn6 ⊢
  have hB := below_box w (.cells #[.slice p N c] 32)
  have hcv := (MapKept.heap_alloc w (.cells #[.slice p N c] 32)).1
  obtain ⟨w1, hw1⟩ : ∃ q, q = w.alloc (.cells #[.slice p N c] 32) := ⟨_, rfl⟩
  rw [← hw1] at hB hcv
  have KV := Lib.hid (valid_any (.slice p N c) cs w1 (hE.syn.keep hB) hfit (hS.keep hB))
  have HW1 := Lib.hid hw1
  have HB1 := Lib.hid hB
  have HC1 := Lib.hid hcv
  have HE := Lib.hid hE
  have HS := Lib.hid hS
  have HN := Lib.hid hN
  have HLEN := Lib.hid hlen
  have HD := Lib.hid hd
  have e0 := cell_of_blkP HC1.out (j := 0) (u := .slice p N c) rfl
  rw [hw1] at e0
  clear hE hfit hS hlen hN hw1 hB hcv hd
  cases hv : Tr.validP cs
  · rw [hv] at KV
    have HV := Lib.hid hv
    clear hv
    go_enter Tryz.func22, Tryz.ntmps22
    go_wp2_with fail
    rw [← HW1.out]
    refine KV.out.mono ?_
    rintro e' w2 ⟨rfl, hb2⟩
    have HB2 := Lib.hid (below_next HB1.out hb2)
    clear hb2 e0
    go_wp2_with fail
    go_ret
    exact ⟨by unfold Sy.programText; rw [HV.out]; rfl, HB2.out⟩
  · rw [hv] at KV
    have HV := Lib.hid hv
    clear hv
    go_enter Tryz.func22, Tryz.ntmps22
    go_wp2_with fail
    rw [← HW1.out]
    refine KV.out.mono ?_
    rintro e' w2 ⟨rfl, hb2⟩
    have HB2 := Lib.hid (below_next HB1.out hb2)
    have HC2 := Lib.hid ((hb2.block _ (Array.getElem?_eq_some_iff.1 HC1.out).1).trans HC1.out)
    clear hb2 e0 HW1
    obtain ⟨w3, hw3⟩ : ∃ q, q = w2.alloc (.cells #[.pointer none, .slice none 0 0, .int .i64 0] 68) := ⟨_, rfl⟩
    have hb3 := below_box w2 (.cells #[.pointer none, .slice none 0 0, .int .i64 0] 68)
    obtain ⟨bx, hbx⟩ : ∃ q, w2.heap.size = q := ⟨_, rfl⟩
    have hi3 : PrIn w2 bx bx [] ((0 : Nat) : Int) w3 := by
      rw [hw3, ← hbx]
      exact ⟨.inl ⟨Nat.le_refl _, _, (MapKept.heap_alloc w2 _).1, World.ownsRow_nil _ _ _ _, fun _ => rfl⟩, hb3, Nat.le_refl _, hb3.size⟩
    rw [← hw3] at hb3
    have hc3 := (hb3.block _ (Array.getElem?_eq_some_iff.1 HC2.out).1).trans HC2.out
    have e0 := cell_of_blkP hc3 (j := 0) (u := .slice p N c) rfl
    rw [hw3] at e0
    have HW3 := Lib.hid hw3
    have HI3 := Lib.hid hi3
    have HS2 := Lib.hid (HS.out.keep HB2.out)
    have HE2 := Lib.hid (HE.out.pr.keep HB2.out)
    have HBX := Lib.hid hbx
    clear hw3 hb3 hi3 hc3
    go_wp2_with fail
    rw [← HW3.out]
    clear e0 HW3
    go_loopg [5, 14] N (fun g s5 s14 wr => ∃ j : Nat, s14 = .int .i64 j ∧ j ≤ N ∧ g = N - j ∧ Hid (PrIn w2 bx bx (((cs.take j).map Sy.classT).flatten) ((0 : Nat) : Int) wr))
    case atStart => exact ⟨0, rfl, Nat.zero_le _, rfl, HI3⟩
    case round =>
      obtain ⟨j, rfl, hj, rfl, HST⟩ := hrel
      by_cases hlt : j < N
      · obtain ⟨s, hs⟩ : ∃ s, cs[j]? = some s := ⟨_, List.getElem?_eq_getElem (by rw [HN.out]; exact hlt)⟩
        obtain ⟨b', o', vx, vy, rfl, _, hc, _, hfx, hmx⟩ := HS2.out.get hs
        obtain ⟨fp, fc, rfl⟩ := hfx.form
        obtain ⟨mp, mc, rfl⟩ := hmx.form
        obtain ⟨FN, hFN⟩ : ∃ q, s.fields.length = q := ⟨_, rfl⟩
        obtain ⟨MN, hMN⟩ : ∃ q, s.methods.length = q := ⟨_, rfl⟩
        rw [hFN] at hfx hc
        rw [hMN] at hmx hc
        obtain ⟨x0, x1, x2, x3⟩ := hc
        have x0 := cell_keep' HST.out.base x0
        have x1 := cell_keep' HST.out.base x1
        have x2 := cell_keep' HST.out.base x2
        have x3 := cell_keep' HST.out.base x3
        have hss := List.mem_of_getElem? hs
        have htk := fl_take Sy.classT hs
        have hle := fl_le Sy.classT cs (j + 1)
        rw [htk, List.length_append] at hle
        have hi4 := HST.out.box (.cells #[.string s.name, .bool s.actor, .slice fp FN fc, .slice mp MN mc] 52)
        obtain ⟨w4, hw4⟩ : ∃ q, q = wr.alloc (.cells #[.string s.name, .bool s.actor, .slice fp FN fc, .slice mp MN mc] 52) := ⟨_, rfl⟩
        rw [← hw4] at hi4
        have hcall := class_any HE2.out s (validP_bodies HV.out s hss) (HD.out s hss) fp FN fc mp MN mc hFN hMN hfx hmx bx bx _ w4 hi4 (by have := HLEN.out; unfold Sy.progT at this; omega)
        unfold classV at hcall
        have HCALL := Lib.hid hcall
        have HI4 := Lib.hid hi4
        have HW4 := Lib.hid hw4
        have HTK := Lib.hid htk
        have b3 : (j : Int) < (N : Int) := by omega
        have hl0 := cell_lt' x0
        clear hs hss hfx hmx hFN hMN htk hle hi4 hw4 hcall
        go_wp2_with fail
        rw [← HW4.out]
        refine HCALL.out.mono ?_
        rintro e' w5 ⟨rfl, hs5, hk5⟩
        have HI5 := Lib.hid (HI4.out.next hs5 hk5)
        clear hs5 hk5 x0 x1 x2 x3 hl0 HW4
        go_wp2_with fail
        go_roundg (N - (j + 1))
        case measure => omega
        case rel =>
          refine ⟨j + 1, by go_num, by omega, rfl, ?_⟩
          rw [HTK.out]
          exact HI5
      · obtain rfl : j = N := by omega
        have hfull : cs.take j = cs := List.take_of_length_le (by rw [HN.out]; exact Nat.le_refl _)
        rw [hfull] at HST
        clear hfull
        have KS := Lib.hid (prString_any wr HST.out.st)
        have hbz : Below w.heap.size w wr := HB2.out.trans (HST.out.base.mono HB2.out.size)
        have HBZ := Lib.hid hbz
        have hsz : w.heap.size ≤ wr.heap.size := hbz.size
        have HSZ := Lib.hid hsz
        clear hbz hsz
        go_wp2_with fail
        refine KS.out.mono ?_
        rintro e' w5 ⟨rfl, hb5⟩
        have HB5 := Lib.hid (HBZ.out.trans (hb5.mono (by have := HB2.out.size; have := HBX.out; have := HSZ.out; omega)))
        clear hb5
        go_wp2_with fail
        go_ret
        exact ⟨by unfold Sy.programText Sy.progT; rw [HV.out]; rfl, HB5.out⟩
end Go.Proofs.YtlgfickhkejdjaaGreatDoor
