/-
  Several texts in one: SyReqX, CoAwake, CoLawBase, CoLawFolds, TreeOpen.
-/
import Derived.Test.YtcnmfcgmnkncaaaGreatDoorF27
import Derived.Test.YtcnmfcgmnkncaaaGreatDoorF25
import Derived.Test.YtcnmfcgmnkncaaaGreatDoorF1
namespace Go.Proofs.YtcnmfcgmnkncaaaGreatDoor
open Go.RowKit Go.Maps
set_option maxRecDepth 100000 in
set_option maxHeartbeats 4000000 in
theorem refSameExpr_any : ∀ d : Nat, ReqEC d := by
 intro d
 induction d with
 | zero => intro x y v1 v2 W hd; have := x.deep_pos; omega
 | succ d ih =>
   intro x y v1 v2 w hd h1 h2
   have hde := E_deep_eq x
   obtain ⟨k, o, i, nm, a, l⟩ := x
   obtain ⟨k', o', i', nm', a', l'⟩ := y
   have h1 : SlE w v1 l := h1
   have h2 : SlE w v2 l' := h2
   have hde : (Tr.E.mk k o i nm a l).deep = 1 + Tr.E.deep.deeps l := hde
   obtain ⟨p1, c1, rfl, _⟩ := h1.form
   obtain ⟨p2, c2, rfl, _⟩ := h2.form
   obtain ⟨N1, hN1⟩ : ∃ q, l.length = q := ⟨_, rfl⟩
   obtain ⟨N2, hN2⟩ : ∃ q, l'.length = q := ⟨_, rfl⟩
   rw [hN1] at h1 ⊢
   rw [hN2] at h2 ⊢
   have hb1 := below_box w (.cells #[.int .i64 k, .int .i64 o, .int .i64 i, .string nm, .bool a, .slice p1 N1 c1] 37)
   have hb2 := hb1.alloc hb1.size (.cells #[.int .i64 k', .int .i64 o', .int .i64 i', .string nm', .bool a', .slice p2 N2 c2] 37)
   obtain ⟨w2, hw2⟩ : ∃ q, q = (w.alloc (.cells #[.int .i64 k, .int .i64 o, .int .i64 i, .string nm, .bool a, .slice p1 N1 c1] 37)).alloc (.cells #[.int .i64 k', .int .i64 o', .int .i64 i', .string nm', .bool a', .slice p2 N2 c2] 37) := ⟨_, rfl⟩
   have HB2 : Hid (Below w.heap.size w w2) := by rw [hw2]; exact hb2
   have hcall := refSameEs_of ih l l' p1 N1 c1 p2 N2 c2 w2 (by omega) hN1 hN2 (h1.keep HB2.out) (h2.keep HB2.out)
   have HCALL := Lib.hid hcall
   have HW2 := Lib.hid hw2
   unfold exprV
   simp only [Tr.E.kind, Tr.E.op, Tr.E.int, Tr.E.name, Tr.E.at_]
   clear hde h1 h2 hN1 hN2 hb1 hb2 hw2 hcall hd ih
   by_cases hk : k = k'
   ·subst hk
    by_cases ho : o = o'
    ·subst ho
     by_cases hi : i = i'
     ·subst hi
      by_cases hn : nm = nm'
      ·subst hn
       by_cases ha : a = a'
       ·subst ha
        go_enter Tryz.func17, Tryz.ntmps17
        go_wp2_with fail
        rw [← HW2.out]
        refine HCALL.out.mono ?_
        rintro e' w3 ⟨rfl, hb3⟩
        have HB3 := Lib.hid (HB2.out.trans (hb3.mono HB2.out.size))
        clear hb3 HW2
        go_wp2_with fail
        go_ret
        exact ⟨by rw [Sy.sameE]; simp, HB3.out⟩
       ·have hf : Sy.sameE (.mk k o i nm a l) (.mk k o i nm a' l') = false := by rw [Sy.sameE]; simp [ha]
        rw [hf]
        clear hf
        go_enter Tryz.func17, Tryz.ntmps17
        go_wp2_with fail
        rw [← HW2.out]
        go_ret
        exact ⟨rfl, HB2.out⟩
      ·have hf : Sy.sameE (.mk k o i nm a l) (.mk k o i nm' a' l') = false := by rw [Sy.sameE]; simp [hn]
       have hn2 := list_ne hn
       rw [hf]
       clear hf
       go_enter Tryz.func17, Tryz.ntmps17
       go_wp2_with fail
       rw [← HW2.out]
       go_ret
       exact ⟨rfl, HB2.out⟩
     ·have hf : Sy.sameE (.mk k o i nm a l) (.mk k o i' nm' a' l') = false := by rw [Sy.sameE]; simp [hi]
      rw [hf]
      clear hf
      go_enter Tryz.func17, Tryz.ntmps17
      go_wp2_with fail
      rw [← HW2.out]
      go_ret
      exact ⟨rfl, HB2.out⟩
    ·have hf : Sy.sameE (.mk k o i nm a l) (.mk k o' i' nm' a' l') = false := by rw [Sy.sameE]; simp [ho]
     rw [hf]
     clear hf
     go_enter Tryz.func17, Tryz.ntmps17
     go_wp2_with fail
     rw [← HW2.out]
     go_ret
     exact ⟨rfl, HB2.out⟩
   ·have hf : Sy.sameE (.mk k o i nm a l) (.mk k' o' i' nm' a' l') = false := by rw [Sy.sameE]; simp [hk]
    rw [hf]
    clear hf
    go_enter Tryz.func17, Tryz.ntmps17
    go_wp2_with fail
    rw [← HW2.out]
    go_ret
    exact ⟨rfl, HB2.out⟩
end Go.Proofs.YtcnmfcgmnkncaaaGreatDoor
namespace Go.Proofs.YtcnmfcgmnkncaaaGreatDoor
namespace Cw
open Go.RowKit Go.Maps Pw
theorem Mz.retP1 {B0 V : Nat} {w W : World} {o0 ow : List Nat} {Q : World → Prop} {bs : List Bk} {os : List (World → Prop)} {R : Nat} {x0 y0 : Value} (h : Mz B0 V w o0 Q ow bs os W) (i : Nat) (hi : bs[i]? = some (R, #[y0], 24)) {fn : Func} {q : Tmp} {A : Act} (hr : fn.results = #[.cell q 24]) (hq : A.tmps.getD q undef = .pointer (some ⟨R, 0, none⟩)) (hd : A.defers = []) {Post : Ending → World → Prop}
 (hp : ∀ W', Mz B0 V w o0 Q ow (bs.set i (R, #[x0], 24)) os W' → Post (.returned (.agg #[x0])) W') :
 bodyPost Tryz.prog fn Post .ret A (W.setCell ⟨R, 0, none⟩ x0) := by
 have h2 := h.set i hi (gr_set W R 0 x0) (heap_set (j := 0) x0 (h.b i hi))
 have hil : i < bs.length := (List.getElem?_eq_some_iff.1 hi).1
 have hS := h2.b i (X := R) (cs := #[x0]) (by rw [List.getElem?_set, if_pos rfl, if_pos hil]; rfl)
 exact bodyPost_ret (v := .agg #[x0]) (results_cell_row hr _ _ R _ _ _ _ hq hS Tryz.underlying24 rfl (by kernel_rfl)) hd (hp _ h2)
end Cw
namespace Co
open Tr
def exA : E := .mk 3 0 0 ⟨#[97]⟩ false []
def exI (n : Int) : E := .mk 0 0 n ⟨#[]⟩ false []
def exSub : E := .mk 10 1 0 ⟨#[]⟩ false [exI 2, exI 1]
def exLess : E := .mk 10 7 0 ⟨#[]⟩ false [exA, exSub]
def exBoth : E := .mk 10 11 0 ⟨#[]⟩ false [exA, exI 3]
def exS1 : S := .mk 6 ⟨#[]⟩ [exBoth] [] []
def exS0 : S := .mk 3 ⟨#[]⟩ [exLess] [exS1] []
def exM : M := ⟨⟨#[103, 111]⟩, [⟨#[97]⟩], [exS0]⟩
def exC : C := ⟨⟨#[65]⟩, true, [], [exM]⟩
def exCs : List C := [exC]
def exCode : List Ins := [(3, 0, 0), (0, 1, 0), (16, 7, 0), (19, 11, 0), (3, 0, 0), (19, 9, 0), (0, 3, 0), (17, 0, 0), (18, 10, 0), (0, 0, 0), (22, 0, 0), (25, 0, 0)]
def exCc : Cc := ⟨⟨#[65]⟩, true, [], [⟨⟨#[103, 111]⟩, 1, 1, exCode, []⟩]⟩
set_option maxRecDepth 100000 in
theorem ex_few : Tr.fewP exCs 150 = true := by decide +kernel
set_option maxRecDepth 100000 in
theorem ex_check : Ck.check exCs = [] := by decide +kernel
set_option maxRecDepth 100000 in
theorem ex_code : ccsOf exCs exCs = some [exCc] := by kernel_rfl
def exN : E := .mk 9 0 0 ⟨#[]⟩ false [exI 5]
theorem ex_fold : foldV exN = exI 0 := by kernel_rfl
theorem SmC.mono {N N' : Nat} {c : C} (h : SmC N c) (hn : N ≤ N') : SmC N' c := ⟨Nat.le_trans h.ms hn, Nat.le_trans h.fs hn, h.nm, h.sz, fun m hm => ⟨by have := (h.all m hm).w; omega, Nat.le_trans (h.all m hm).ps hn, (h.all m hm).sz, (h.all m hm).nm⟩⟩
theorem few_sz {l : List C} {n : Nat} (h : fewP l n = true) (hn : n ≤ 1000) : l.length ≤ 1000 ∧ ∀ c ∈ l, SmC 1000 c := ⟨Nat.le_trans (few_small h).1 hn, fun c hc => ((few_small h).2 c hc).mono hn⟩
end Co
namespace Cw
open Go.RowKit Go.Maps Pw
instance decI64' (n : Int) : Decidable (Tr.I64 n) := by unfold Tr.I64; infer_instance
theorem bd_exI (n : Int) (h : Tr.I64 n) : BdE (Co.exI n) := bdE_mk (i64_small (n := 0) (by decide) (by decide)) (i64_small (n := 0) (by decide) (by decide)) h size_nil
theorem bd_exSub : BdE Co.exSub := ⟨by decide, by decide, by decide, by decide⟩
theorem bd_exA : BdE Co.exA := ⟨by decide, by decide, by decide, by decide⟩
theorem slI_blk {W : World} {g : Nat} {cs : Array Value} {t : TypeId} {l : List Co.Ins} (h : W.heap[g]? = some (.cells cs t (0, 0))) (hc : cs.toList = flatV iCells l) (hl : l.length ≤ 1000) : SlI W (.slice (some ⟨g, 0, none⟩) l.length l.length) l := by
 refine ⟨_, _, rfl, by unfold maxLen; omega, fun _ => ⟨Nat.le_refl _, by unfold maxLen; omega⟩, fun j x hj => ⟨g, 0, rfl, lt_of_block h, ?_⟩⟩
 have hat : ∀ q u, (iCells x)[q]? = some u → q < 3 → W.cell? ⟨g, j * 3 + q, none⟩ = some u := fun q u hu hq => cell_of_blkP h (by rw [← Array.getElem?_toList, hc, flatV_get iCells 3 iCells_len l j x q hq hj, hu])
 rw [Nat.zero_add]
 exact ⟨hat 0 _ rfl (by omega), hat 1 _ rfl (by omega), hat 2 _ rfl (by omega)⟩
def ExPost (w : World) (e : Ending) (w' : World) : Prop := ∃ v, e = .returned (.agg #[v]) ∧ SlC w' v Co.exCs ∧ Below w.heap.size w w'
set_option maxRecDepth 100000 in
set_option maxHeartbeats 16000000 in
theorem example_any42 (w : World) : Calls Tryz.prog 30 #[] w (ExPost w) := by
 have C0 := Lib.hid (My.start w)
 go_enter Tryz.func30, Tryz.ntmps30
 obtain ⟨R, w1, HX1, HW1, hx1, C1⟩ := C0.out.boxE #[.slice none 0 0] 24
 go_upto_region 1 with fail
 rw [← HX1.out, ← HW1.out]
 clear HX1 HW1 C0
 obtain ⟨A, w2, HX2, HW2, hx2, C2⟩ := C1.out.boxE #[.int .i64 3, .int .i64 0, .int .i64 0, .string ⟨#[97]⟩, .bool false, .slice none 0 0] 37
 go_upto_region 2 with fail
 rw [← HX2.out, ← HW2.out]
 clear HX2 HW2 C1
 obtain ⟨l0, c0_0, f0_0, c0_1, f0_1, c0_2, f0_2, c0_3, f0_3, c0_4, f0_4, c0_5, f0_5⟩ := cells6 (C2.out.b 0 rfl)
 obtain ⟨L2, w3, HX3, HW3, hx3, C3⟩ := C2.out.boxE #[.int .i64 0, .int .i64 0, .int .i64 2, .string ⟨#[]⟩, .bool false, .slice none 0 0, .int .i64 0, .int .i64 0, .int .i64 1, .string ⟨#[]⟩, .bool false, .slice none 0 0] 37
 obtain ⟨L1, w4, HX4, HW4, hx4, C4⟩ := C3.out.boxE #[.int .i64 3, .int .i64 0, .int .i64 0, .string ⟨#[97]⟩, .bool false, .slice none 0 0, .int .i64 10, .int .i64 1, .int .i64 0, .string ⟨#[]⟩, .bool false, .slice (some ⟨L2, 0, none⟩) 2 2] 37
 have HY4 : Hid (L1 = L2 + 1) := Lib.hid (by rw [HX4.out, HW3.out, HX3.out]; simp)
 obtain ⟨LE, w5, HX5, HW5, hx5, C5⟩ := C4.out.boxE #[.int .i64 10, .int .i64 7, .int .i64 0, .string ⟨#[]⟩, .bool false, .slice (some ⟨L1, 0, none⟩) 2 2] 37
 have HY5 : Hid (LE = L1 + 1) := Lib.hid (by rw [HX5.out, HW4.out, HX4.out]; simp)
 go_upto_region 3 with fail
 rw [← HX3.out, ← HW3.out, ← HY4.out, ← HW4.out, ← HY5.out, ← HW5.out]
 clear HX3 HW3 C2 HY4 HX4 HW4 C3 HY5 HX5 HW5 C4 l0 c0_0 f0_0 c0_1 f0_1 c0_2 f0_2 c0_3 f0_3 c0_4 f0_4 c0_5 f0_5
 obtain ⟨l3, c3_0, f3_0, c3_1, f3_1, c3_2, f3_2, c3_3, f3_3, c3_4, f3_4, c3_5, f3_5⟩ := cells6 (C5.out.b 3 rfl)
 obtain ⟨B2, w6, HX6, HW6, hx6, C6⟩ := C5.out.boxE #[.int .i64 3, .int .i64 0, .int .i64 0, .string ⟨#[97]⟩, .bool false, .slice none 0 0, .int .i64 0, .int .i64 0, .int .i64 3, .string ⟨#[]⟩, .bool false, .slice none 0 0] 37
 obtain ⟨BO, w7, HX7, HW7, hx7, C7⟩ := C6.out.boxE #[.int .i64 10, .int .i64 11, .int .i64 0, .string ⟨#[]⟩, .bool false, .slice (some ⟨B2, 0, none⟩) 2 2] 37
 have HY7 : Hid (BO = B2 + 1) := Lib.hid (by rw [HX7.out, HW6.out, HX6.out]; simp)
 go_upto_region 4 with fail
 rw [← HX6.out, ← HW6.out, ← HY7.out, ← HW7.out]
 clear HX6 HW6 C5 HY7 HX7 HW7 C6 l3 c3_0 f3_0 c3_1 f3_1 c3_2 f3_2 c3_3 f3_3 c3_4 f3_4 c3_5 f3_5
 obtain ⟨l2, c2_0, f2_0, c2_1, f2_1, c2_2, f2_2, c2_3, f2_3, c2_4, f2_4, c2_5, f2_5⟩ := cells6 (C7.out.b 2 rfl)
 obtain ⟨l0, c0_0, f0_0, c0_1, f0_1, c0_2, f0_2, c0_3, f0_3, c0_4, f0_4, c0_5, f0_5⟩ := cells6 (C7.out.b 0 rfl)
 obtain ⟨LS, w8, HX8, HW8, hx8, C8⟩ := C7.out.boxE #[.int .i64 10, .int .i64 7, .int .i64 0, .string ⟨#[]⟩, .bool false, .slice (some ⟨L1, 0, none⟩) 2 2] 37
 obtain ⟨BS, w9, HX9, HW9, hx9, C9⟩ := C8.out.boxE #[.int .i64 10, .int .i64 11, .int .i64 0, .string ⟨#[]⟩, .bool false, .slice (some ⟨B2, 0, none⟩) 2 2] 37
 have HY9 : Hid (BS = LS + 1) := Lib.hid (by rw [HX9.out, HW8.out, HX8.out]; simp)
 obtain ⟨S1, w10, HX10, HW10, hx10, C10⟩ := C9.out.boxE #[.int .i64 6, .string ⟨#[]⟩, .slice (some ⟨BS, 0, none⟩) 1 1, .slice none 0 0, .slice none 0 0] 71
 have HY10 : Hid (S1 = BS + 1) := Lib.hid (by rw [HX10.out, HW9.out, HX9.out]; simp)
 obtain ⟨S0, w11, HX11, HW11, hx11, C11⟩ := C10.out.boxE #[.int .i64 3, .string ⟨#[]⟩, .slice (some ⟨LS, 0, none⟩) 1 1, .slice (some ⟨S1, 0, none⟩) 1 1, .slice none 0 0] 71
 have HY11 : Hid (S0 = S1 + 1) := Lib.hid (by rw [HX11.out, HW10.out, HX10.out]; simp)
 go_upto_region 5 with fail
 rw [← HX8.out, ← HW8.out, ← HY9.out, ← HW9.out, ← HY10.out, ← HW10.out, ← HY11.out, ← HW11.out]
 clear HX8 HW8 C7 HY9 HX9 HW9 C8 HY10 HX10 HW10 C9 HY11 HX11 HW11 C10 l2 c2_0 f2_0 c2_1 f2_1 c2_2 f2_2 c2_3 f2_3 c2_4 f2_4 c2_5 f2_5 l0 c0_0 f0_0 c0_1 f0_1 c0_2 f0_2 c0_3 f0_3 c0_4 f0_4 c0_5 f0_5
 obtain ⟨l10, c10_0, f10_0⟩ := cells1 (C11.out.b 10 rfl)
 obtain ⟨PA, w12, HX12, HW12, hx12, C12⟩ := C11.out.boxE #[.string ⟨#[97]⟩] 9
 obtain ⟨ME, w13, HX13, HW13, hx13, C13⟩ := C12.out.boxE #[.string ⟨#[103, 111]⟩, .slice (some ⟨PA, 0, none⟩) 1 1, .slice (some ⟨S0, 0, none⟩) 1 1] 62
 have HY13 : Hid (ME = PA + 1) := Lib.hid (by rw [HX13.out, HW12.out, HX12.out]; simp)
 obtain ⟨CL, w14, HX14, HW14, hx14, C14⟩ := C13.out.boxE #[.string ⟨#[65]⟩, .bool true, .slice none 0 0, .slice (some ⟨ME, 0, none⟩) 1 1] 55
 have HY14 : Hid (CL = ME + 1) := Lib.hid (by rw [HX14.out, HW13.out, HX13.out]; simp)
 obtain ⟨zl, zc, zf⟩ := cells1 (C14.out.b 13 rfl)
 simp only [HW14.out, HW13.out, HY13.out, HW12.out, HX12.out] at zl zc zf
 go_wp2_with fail
 rw [← HX12.out, ← HW12.out, ← HY13.out, ← HW13.out, ← HY14.out, ← HW14.out]
 clear HX12 HW12 C11 HY13 HX13 HW13 C12 HY14 HX14 HW14 C13 l10 c10_0 f10_0
 refine Mz.retP1 (Post := ExPost w) C14.out 13 rfl Tryz.results30 rfl rfl (fun W9 h9 => ⟨_, rfl, ?_, h9.gr.fresh⟩)
 have e2 : SlE W9 (.slice (some ⟨L2, 0, none⟩) 2 2) [Co.exI 2, Co.exI 1] := slE_blk (h9.b 11 rfl) [(Co.exI 2, .slice none 0 0), (Co.exI 1, .slice none 0 0)] (by simp) rfl (fun z hz => by
  rcases List.mem_cons.1 hz with rfl | hz
  ·exact ⟨bd_exI 2 (by decide), .nil _ _⟩
  ·rw [List.mem_singleton.1 hz]; exact ⟨bd_exI 1 (by decide), .nil _ _⟩)
 have e1 : SlE W9 (.slice (some ⟨L1, 0, none⟩) 2 2) [Co.exA, Co.exSub] := slE_blk (h9.b 10 rfl) [(Co.exA, .slice none 0 0), (Co.exSub, .slice (some ⟨L2, 0, none⟩) 2 2)] (by simp) rfl (fun z hz => by
  rcases List.mem_cons.1 hz with rfl | hz
  ·exact ⟨bd_exA, .nil _ _⟩
  ·rw [List.mem_singleton.1 hz]; exact ⟨bd_exSub, e2⟩)
 have b2 : SlE W9 (.slice (some ⟨B2, 0, none⟩) 2 2) [Co.exA, Co.exI 3] := slE_blk (h9.b 8 rfl) [(Co.exA, .slice none 0 0), (Co.exI 3, .slice none 0 0)] (by simp) rfl (fun z hz => by
  rcases List.mem_cons.1 hz with rfl | hz
  ·exact ⟨bd_exA, .nil _ _⟩
  ·rw [List.mem_singleton.1 hz]; exact ⟨bd_exI 3 (by decide), .nil _ _⟩)
 have ls : SlE W9 (.slice (some ⟨LS, 0, none⟩) 1 1) [Co.exLess] := slE_blk1 (e := Co.exLess) (h9.b 6 rfl) ⟨by decide, by decide, by decide, by decide⟩ e1
 have bs : SlE W9 (.slice (some ⟨BS, 0, none⟩) 1 1) [Co.exBoth] := slE_blk1 (e := Co.exBoth) (h9.b 5 rfl) ⟨by decide, by decide, by decide, by decide⟩ b2
 have s1 : SlS W9 (.slice (some ⟨S1, 0, none⟩) 1 1) [Co.exS1] := slS_blk1 (s := Co.exS1) (h9.b 4 rfl) ⟨by decide, by decide⟩ bs (.nil _ _) (.nil _ _)
 have s0 : SlS W9 (.slice (some ⟨S0, 0, none⟩) 1 1) [Co.exS0] := slS_blk1 (s := Co.exS0) (h9.b 3 rfl) ⟨by decide, by decide⟩ ls s1 (.nil _ _)
 have pa : SlStr W9 (.slice (some ⟨PA, 0, none⟩) 1 1) [⟨#[97]⟩] := slStr_blk (l := [⟨#[97]⟩]) (h9.b 2 rfl) rfl (by decide) (fun s hs => by rw [List.mem_singleton.1 hs]; decide)
 have me : SlM W9 (.slice (some ⟨ME, 0, none⟩) 1 1) [Co.exM] := slM_blk1 (m := Co.exM) (h9.b 1 rfl) (by decide) pa s0
 exact slC_blk1 (c := Co.exC) (h9.b 0 rfl) (by decide) (slStr_nil _ _ _) me
set_option maxRecDepth 100000 in
set_option maxHeartbeats 16000000 in
theorem awake42_any (w : World) (hE : CoEnv w) : Calls Tryz.prog 10 #[] w fun e w' => e = .returned (.bool true) ∧ Below w.heap.size w w' := by
 have HE := Lib.hid hE
 clear hE
 go_enter Tryz.func10, Tryz.ntmps10
 go_wp2_with fail
 refine (example_any42 _).mono ?_
 rintro e w1 ⟨v, rfl, hs, hb1⟩
 have HS1 := Lib.hid hs
 have HB1 := Lib.hid hb1
 clear hs hb1
 go_wp2_with fail
 refine (program_any42 HS1.out (HE.out.keep HB1.out) (Ck.small_of Co.ex_few (by decide)) (Tr.fitP_of Co.ex_few (by decide)) (Co.few_sz Co.ex_few (by decide))).mono ?_
 rintro e w2 ⟨hb2, v2, hp⟩
 rcases hp with ⟨_, l, hl, rfl, hs2⟩ | ⟨_, n, _, ⟨r, hr⟩ | ⟨_, hr, _⟩⟩
 rotate_left
 ·rw [Co.ex_check] at hr; cases hr
 ·rw [Co.ex_code] at hr; cases hr
 rw [Co.ex_code] at hl
 cases hl
 have HB2 := Lib.hid (HB1.out.trans (hb2.mono HB1.out.size))
 have hs3 : SlCc w2 v2 [Co.exCc] := SlCc.inc hs2 hid_all
 clear hb2 hs2
 obtain ⟨pc, cc, rfl, _⟩ := hs3.form
 obtain ⟨b1, o1, x1, y1, rfl, hl1, ⟨_, _, _, u3⟩, _, _, hmm⟩ := hs3.get (j := 0) (m := Co.exCc) rfl
 obtain ⟨pm, cm, rfl, _⟩ := hmm.form
 obtain ⟨b2, o2, x2, y2, rfl, hl2, ⟨_, _, _, t3, _⟩, _, hco, _⟩ := hmm.get (j := 0) (m := ⟨⟨#[103, 111]⟩, 1, 1, Co.exCode, []⟩) rfl
 obtain ⟨pi, ci, rfl, _⟩ := hco.form
 simp only [Nat.zero_mul, Nat.add_zero] at u3 t3
 have hlm : Co.exCc.methods.length = 1 := rfl
 have hlc : Co.exCode.length = 12 := rfl
 have hl0 : [Co.exCc].length = 1 := rfl
 rw [hlm] at u3
 rw [hlc] at t3
 rw [hl0]
 have C2 := Lib.hid (My.start w2)
 have HU := Lib.hid u3
 have HT := Lib.hid t3
 have HCO := Lib.hid hco
 clear hs3 hmm hco u3 t3 hlm hlc hl0
 obtain ⟨CO, w15, HX, HW, hx15, C15⟩ := C2.out.boxE #[.slice (some ⟨b1, o1, none⟩) 1 cc] 29
 go_upto_region 2 with fail
 rw [← HX.out, ← HW.out]
 clear HX HW C2
 have u3 := cell_keep' C15.out.gr.fresh HU.out
 have t3 := cell_keep' C15.out.gr.fresh HT.out
 obtain ⟨l0, c0_0, f0_0⟩ := cells1 (C15.out.b 0 rfl)
 go_upto_region 4 with fail
 clear u3 t3 l0 c0_0 f0_0
 obtain ⟨WA, w16, HX, HW, hx16, C16⟩ := C15.out.boxE #[.int .i64 3, .int .i64 0, .int .i64 0, .int .i64 0, .int .i64 1, .int .i64 0, .int .i64 16, .int .i64 7, .int .i64 0, .int .i64 19, .int .i64 11, .int .i64 0, .int .i64 3, .int .i64 0, .int .i64 0, .int .i64 19, .int .i64 9, .int .i64 0, .int .i64 0, .int .i64 3, .int .i64 0, .int .i64 17, .int .i64 0, .int .i64 0, .int .i64 18, .int .i64 10, .int .i64 0, .int .i64 0, .int .i64 0, .int .i64 0, .int .i64 22, .int .i64 0, .int .i64 0, .int .i64 25, .int .i64 0, .int .i64 0] 65
 go_upto_region 5 with fail
 rw [← HX.out, ← HW.out]
 clear HX HW C15
 have u3 := cell_keep' C16.out.gr.fresh HU.out
 have t3 := cell_keep' C16.out.gr.fresh HT.out
 have HWA : Hid (SlI w16 (.slice (some ⟨WA, 0, none⟩) 12 12) Co.exCode) := Lib.hid (slI_blk (l := Co.exCode) (C16.out.b 0 rfl) rfl (by decide))
 have HGO := Lib.hid (HCO.out.keep C16.out.gr.fresh)
 have HLC : Hid (Co.exCode.length = 12) := Lib.hid rfl
 obtain ⟨l1, c1_0, f1_0⟩ := cells1 (C16.out.b 1 rfl)
 have hh1 := hl1
 go_upto_region 8 with fail
 clear u3 t3 hh1 l1 c1_0 f1_0
 clear hl1 hl2 HU HT HCO
 have CQ := C16
 go_wp2_with fail
 go_loopg [5] 12 (fun gg s5 wr => ∃ j : Nat, s5 = .int .i64 j ∧ j ≤ 12 ∧ gg = 12 - j ∧ Hid (My w2 [] [] wr) ∧ Hid (Below w16.heap.size w16 wr))
 case atStart => exact ⟨0, rfl, by omega, rfl, Lib.hid (CQ.out.sub (List.nil_sublist _)), Lib.hid (Below.refl _ _)⟩
 case round =>
  clear CQ C16
  obtain ⟨j, rfl, hj, rfl, CR, HBR⟩ := hrel
  by_cases hlt : j < 12
  ·obtain ⟨x, hx⟩ : ∃ x, Co.exCode[j]? = some x := ⟨_, List.getElem?_eq_getElem (by rw [HLC.out]; exact hlt)⟩
   obtain ⟨xo, xa, xb⟩ := x
   have hga := HGO.out.keep HBR.out
   rw [HLC.out] at hga
   obtain ⟨gb1, go1, rfl, hgl, c0, c1, c2⟩ := hga.get hx
   obtain ⟨wb1, wo1, hwe, hwl, d0, d1, d2⟩ := (HWA.out.keep HBR.out).get hx
   cases hwe
   dsimp only at c0 c1 c2 d0 d1 d2
   simp only [Nat.zero_add] at d0 d1 d2
   have b0j : (0 : Int) ≤ (j : Int) := by omega
   have b3j : (j : Int) < 12 := by omega
   have HSH : Hid (wr.cell? ⟨gb1, go1 + j * 3, none⟩ = some (.int .i64 xo) ∧ wr.cell? ⟨gb1, go1 + j * 3 + 1, none⟩ = some (.int .i64 xa) ∧ wr.cell? ⟨gb1, go1 + j * 3 + 2, none⟩ = some (.int .i64 xb) ∧ wr.cell? ⟨WA, j * 3, none⟩ = some (.int .i64 xo) ∧ wr.cell? ⟨WA, j * 3 + 1, none⟩ = some (.int .i64 xa) ∧ wr.cell? ⟨WA, j * 3 + 2, none⟩ = some (.int .i64 xb)) := Lib.hid ⟨c0, c1, c2, d0, d1, d2⟩
   clear hga hx c0 c1 c2 d0 d1 d2
   go_upto_region 11 with fail
   obtain ⟨wd, HWD, CD⟩ := CR.out.drewE
   refine wp_region_held_drew (S := fun W => W.cell? ⟨gb1, go1 + j * 3, none⟩ = some (.int .i64 xo) ∧ W.cell? ⟨gb1, go1 + j * 3 + 1, none⟩ = some (.int .i64 xa) ∧ W.cell? ⟨gb1, go1 + j * 3 + 2, none⟩ = some (.int .i64 xb) ∧ W.cell? ⟨WA, j * 3, none⟩ = some (.int .i64 xo) ∧ W.cell? ⟨WA, j * 3 + 1, none⟩ = some (.int .i64 xa) ∧ W.cell? ⟨WA, j * 3 + 2, none⟩ = some (.int .i64 xb)) (by kernel_rfl) (by rw [← HWD.out]; rw [HWD.out]; exact HSH.out) (fun hHeld => ?_)
   have HBD : Hid (Below wr.heap.size wr wd) := Lib.hid (by rw [HWD.out]; exact gr_fresh (gr_drew (gr_refl _ _)))
   rw [← HWD.out] at hHeld ⊢
   refine rT 0 (some 60) ?_
   try simp only [Act.put, q0, q1, q2]
   refine rT 1 (some 61) ?_
   try simp only [Act.put, q0, q1, q2]
   refine rT 2 (some 62) ?_
   try simp only [Act.put, q0, q1, q2]
   refine rT 3 (some 63) ?_
   try simp only [Act.put, q0, q1, q2]
   refine rT 4 (some 64) ?_
   try simp only [Act.put, q0, q1, q2]
   refine rT 5 (some 65) ?_
   try simp only [Act.put, q0, q1, q2]
   refine rT 6 (some 66) ?_
   try simp only [Act.put, q0, q1, q2]
   refine rT 7 (some 67) ?_
   try simp only [Act.put, q0, q1, q2]
   refine rT 8 (some 68) ?_
   try simp only [Act.put, q0, q1, q2]
   refine wpAnyH_done (by kernel_rfl) ?_ _
   clear hHeld
   go_wp2_with fail
   go_roundg (12 - (j + 1))
   case measure => omega
   case rel => exact ⟨j + 1, by go_num, by omega, rfl, CD, Lib.hid (HBR.out.trans (HBD.out.mono HBR.out.size))⟩
  ·obtain rfl : j = 12 := by omega
   clear HBR HWA HGO HLC hlt hj
   obtain ⟨NX, w17, HX, HW, hx17, C17⟩ := CR.out.boxE #[.int .i64 0, .int .i64 0, .int .i64 5, .string ⟨#[]⟩, .bool false, .slice none 0 0] 37
   go_wp2_with fail
   rw [← HX.out, ← HW.out]
   clear HX HW CR
   have hfo := Fold_any Co.exN (.slice (some ⟨NX, 0, none⟩) 1 1) w17 ((HE.out.keep HB2.out).keep C17.out.gr.fresh).syn.lex (by decide) ⟨by decide, by decide, by decide, by decide⟩ (slE_blk1 (e := Co.exI 5) (C17.out.b 0 rfl) (bd_exI 5 (by decide)) (.nil _ _))
   rw [Co.ex_fold] at hfo
   refine Calls.mono hfo ?_
   clear hfo
   rintro e w7 hfv
   obtain ⟨a7, rfl, _, hs7, hb7⟩ := hfv
   obtain ⟨pa, ca, rfl, _⟩ := hs7.form
   have HB7 := Lib.hid hb7
   have hk : Calls Tryz.prog 17 #[.agg #[.int .i64 0, .int .i64 0, .int .i64 0, .string ⟨#[]⟩, .bool false, .slice pa 0 ca], .agg #[.int .i64 0, .int .i64 0, .int .i64 0, .string ⟨#[]⟩, .bool false, .slice none 0 0]] w7 fun r w8 => r = .returned (.bool (Sy.sameE (Co.exI 0) (Co.exI 0))) ∧ Below w7.heap.size w7 w8 := refSameExpr_any 1 (Co.exI 0) (Co.exI 0) (.slice pa 0 ca) (.slice none 0 0) w7 (by decide) hs7 (.nil _ _)
   rw [(Sy.sameE_iff _ _).2 rfl] at hk
   have HK := Lib.hid hk
   unfold exprV
   simp only [Co.exI, Tr.E.kind, Tr.E.op, Tr.E.int, Tr.E.name, Tr.E.at_, Tr.E.args, List.length_nil]
   clear hk hs7 hb7
   go_wp2_with fail
   refine HK.out.mono ?_
   rintro e w8 ⟨rfl, hb8⟩
   go_wp2_with fail
   go_ret
   exact ⟨rfl, HB2.out.trans (((C17.out.gr.fresh.trans (HB7.out.mono C17.out.gr.fresh.size)).trans (hb8.mono (Nat.le_trans C17.out.gr.fresh.size HB7.out.size))).mono HB2.out.size)⟩
end Cw
end Go.Proofs.YtcnmfcgmnkncaaaGreatDoor
namespace Go.Proofs.YtcnmfcgmnkncaaaGreatDoor
namespace Cw
open Go.RowKit Go.Maps Pw
abbrev Mo (w : World) (os : List (World → Prop)) (W : World) : Prop := Mz 0 0 w [] (fun _ => True) [] [] os W
def RB (b : Nat) (cs : Array Value) : World → Prop := fun W => ∀ (j : Nat) (u : Value), cs[j]? = some u → W.cell? ⟨b, j, none⟩ = some u
theorem rb_mn {b : Nat} {cs : Array Value} : Mn (RB b cs) := fun _ _ hi h j u hu => hi.2 _ _ _ (h j u hu)
section
variable {w W W' : World} {os : List (World → Prop)}
theorem Mo.start (w : World) : Mo w [] w := Mz.start trivial (fun _ _ _ => trivial) (Nat.zero_le _) (Nat.zero_le _) (fun _ h => by cases h) (fun _ h => by cases h)
theorem Mo.add (h : Mo w os W) {r : World → Prop} (hm : Mn r) (hr : r W) : Mo w (r :: os) W := Mz.get h hm (hm _ _ (hid_none W) hr)
theorem Mo.boxO (h : Mo w os W) (cs : Array Value) (t : TypeId) : ∃ X W', Hid (X = W.heap.size) ∧ Hid (W' = W.alloc (.cells cs t)) ∧ Hid (Mo w (RB X cs :: os) W') :=
 ⟨_, _, Lib.hid rfl, Lib.hid rfl, Lib.hid (Mo.add (Mz.below h (below_box W _)) rb_mn (fun j u hu => box_cell W cs t j u hu))⟩
theorem Mo.fresh (h : Mo w os W) : Below w.heap.size w W := h.gr.fresh
end
set_option maxRecDepth 100000 in
set_option maxHeartbeats 1000000 in
theorem fewExpr_any (e : Tr.E) (a : Value) (n : Int) (w : World) (hbd : BdE e) (hS : SlE w a e.args) (h0 : 0 ≤ n) (hn : n ≤ 1000000) :
 Calls Tryz.prog 15 #[exprV e a, .int .i64 n] w fun r w' => r = .returned (.bool (Tr.fewE e n)) ∧ Below w.heap.size w w' := by
 have hbx := below_box w (.cells #[.int .i64 e.kind, .int .i64 e.op, .int .i64 e.int, .string e.name, .bool e.at_, a] 37)
 have K := leftExpr_any e.deep e a n _ (Nat.le_refl _) hbd (hS.keep hbx) h0 hn
 have HK := Lib.hid K
 have HB := Lib.hid hbx
 have hfin : Tr.fewE e n = decide (0 ≤ Tr.leftE e n) := rfl
 obtain ⟨m, hm⟩ : ∃ q, Tr.leftE e n = q := ⟨_, rfl⟩
 rw [hm] at hfin HK
 rw [hfin]
 clear hbd hS K hbx hfin hm
 unfold exprV at HK ⊢
 go_enter Tryz.func15, Tryz.ntmps15
 go_wp2_with fail
 refine HK.out.mono ?_
 rintro r w2 ⟨rfl, hb2⟩
 have HB2 := Lib.hid (below_next HB.out hb2)
 clear hb2
 go_wp2_with fail
 go_ret
 exact ⟨rfl, HB2.out⟩
theorem few_wE {e : Tr.E} {n : Int} (h : Tr.fewE e n = true) (hn : n ≤ 1000) : Co.wE e ≤ 900000 := by
 have h1 : 0 ≤ Tr.leftE e n := of_decide_eq_true h
 have := Co.wE_left e n h1
 omega
end Cw
end Go.Proofs.YtcnmfcgmnkncaaaGreatDoor
namespace Go.Proofs.YtcnmfcgmnkncaaaGreatDoor
namespace Cw
open Go.RowKit Go.Maps Pw
theorem sameE_refl' (e : Tr.E) : Sy.sameE e e = true := (Sy.sameE_iff _ _).2 rfl
theorem wE_foldV (e : Tr.E) : Co.wE (Co.foldV e) ≤ Co.wE e := by
 unfold Co.foldV
 split
 ·exact Co.wE_fold e
 ·exact Nat.le_refl _
set_option maxRecDepth 100000 in
set_option maxHeartbeats 16000000 in
theorem law_folds (e : Tr.E) (a : Value) (w : World) (hE : CoEnv w) (h : BdE e ∧ SlE w a e.args) :
 Calls Tryz.prog 4 #[exprV e a] w fun r w' => r = .returned (.bool true) ∧ Below w.heap.size w w' := by
 obtain ⟨hbd, hS⟩ := h
 obtain ⟨p, c, rfl, _⟩ := hS.form
 obtain ⟨N, hN⟩ : ∃ q, e.args.length = q := ⟨_, rfl⟩
 rw [hN] at hS ⊢
 have HB := Lib.hid hbd
 have HE := Lib.hid hE
 have C0 := Lib.hid (Mo.add (Mo.start w) (r := RE (.slice p N c) e.args) re_mn hS)
 clear hS hbd hE hN
 unfold exprV
 obtain ⟨E, w1, HX, HW, C1⟩ := C0.out.boxO #[.int .i64 e.kind, .int .i64 e.op, .int .i64 e.int, .string e.name, .bool e.at_, .slice p N c] 37
 go_enter Tryz.func4, Tryz.ntmps4
 go_upto_region 1 with fail
 rw [← HX.out, ← HW.out]
 clear HX HW C0
 go_wp2_with fail
 have hk := awake42_any w1 (HE.out.keep C1.out.gr.fresh)
 refine hk.mono ?_
 clear hk
 rintro e w2 ⟨rfl, hb9⟩
 have C2 := Lib.hid (Mz.below C1.out hb9)
 clear hb9 C1
 cases hf : Tr.fewE e 80
 ·have cE_0 := (C2.out.rd 0 rfl) 0 _ rfl
  have cE_1 := (C2.out.rd 0 rfl) 1 _ rfl
  have cE_2 := (C2.out.rd 0 rfl) 2 _ rfl
  have cE_3 := (C2.out.rd 0 rfl) 3 _ rfl
  have cE_4 := (C2.out.rd 0 rfl) 4 _ rfl
  have cE_5 := (C2.out.rd 0 rfl) 5 _ rfl
  go_wp2_with fail
  clear cE_0 cE_1 cE_2 cE_3 cE_4 cE_5
  have hk := fewExpr_any e (.slice p N c) 80 w2 HB.out (C2.out.rd 1 rfl) (by decide) (by decide)
  unfold exprV at hk
  refine hk.mono ?_
  clear hk
  rintro e w3 ⟨rfl, hb9⟩
  rw [hf]
  have C3 := Lib.hid (Mz.below C2.out hb9)
  clear hb9 C2
  go_wp2_with fail
  go_ret
  exact ⟨rfl, C3.out.gr.fresh⟩
 ·have cE_0 := (C2.out.rd 0 rfl) 0 _ rfl
  have cE_1 := (C2.out.rd 0 rfl) 1 _ rfl
  have cE_2 := (C2.out.rd 0 rfl) 2 _ rfl
  have cE_3 := (C2.out.rd 0 rfl) 3 _ rfl
  have cE_4 := (C2.out.rd 0 rfl) 4 _ rfl
  have cE_5 := (C2.out.rd 0 rfl) 5 _ rfl
  go_wp2_with fail
  clear cE_0 cE_1 cE_2 cE_3 cE_4 cE_5
  have hk := fewExpr_any e (.slice p N c) 80 w2 HB.out (C2.out.rd 1 rfl) (by decide) (by decide)
  unfold exprV at hk
  refine hk.mono ?_
  clear hk
  rintro e w4 ⟨rfl, hb9⟩
  rw [hf]
  have C4 := Lib.hid (Mz.below C2.out hb9)
  clear hb9 C2
  have HW := Lib.hid (few_wE hf (by decide))
  clear hf
  obtain ⟨x, hx⟩ : ∃ q, Co.foldV e = q := ⟨_, rfl⟩
  have HWX : Hid (Co.wE x ≤ 900000) := Lib.hid (by rw [← hx]; exact Nat.le_trans (wE_foldV e) HW.out)
  have HFX : Hid (Co.foldV x = x) := Lib.hid (by rw [← hx]; exact Co.foldV_foldV e)
  have HVX : Hid (Tr.validE x = Tr.validE e) := Lib.hid (by rw [← hx]; exact Co.foldV_valid e)
  have HX0 := Lib.hid hx
  clear hx
  have cE_0 := (C4.out.rd 0 rfl) 0 _ rfl
  have cE_1 := (C4.out.rd 0 rfl) 1 _ rfl
  have cE_2 := (C4.out.rd 0 rfl) 2 _ rfl
  have cE_3 := (C4.out.rd 0 rfl) 3 _ rfl
  have cE_4 := (C4.out.rd 0 rfl) 4 _ rfl
  have cE_5 := (C4.out.rd 0 rfl) 5 _ rfl
  go_wp2_with fail
  clear cE_0 cE_1 cE_2 cE_3 cE_4 cE_5
  have hk := Fold_any e (.slice p N c) w4 (HE.out.keep C4.out.gr.fresh).syn.lex HW.out HB.out (C4.out.rd 1 rfl)
  unfold exprV at hk
  refine hk.mono ?_
  clear hk
  rintro e w5 ⟨a9, rfl, hbx9, hsx9, hb9⟩
  rw [HX0.out] at hbx9 hsx9 ⊢
  obtain ⟨p1, c1, rfl, _⟩ := hsx9.form
  obtain ⟨NX, hNX⟩ : ∃ q, x.args.length = q := ⟨_, rfl⟩
  have HNX := Lib.hid hNX
  have HBX := Lib.hid hbx9
  rw [hNX] at hsx9 ⊢
  clear hNX
  unfold exprV
  have C5 := Lib.hid (Mo.add (Mz.below C4.out hb9) (r := RE (.slice p1 NX c1) x.args) re_mn (hsx9))
  clear hb9 C4
  clear hsx9
  clear hbx9
  obtain ⟨X, w6, HX, HW, C6⟩ := C5.out.boxO #[.int .i64 x.kind, .int .i64 x.op, .int .i64 x.int, .string x.name, .bool x.at_, .slice p1 NX c1] 37
  go_upto_region 6 with fail
  rw [← HX.out, ← HW.out]
  clear HX HW C5
  obtain ⟨w7, HW, C7⟩ := C6.out.drewE
  refine wp_region_held_drew (S := fun W => W.cell? ⟨E, 0, none⟩ = some (.int .i64 e.kind) ∧ W.cell? ⟨E, 1, none⟩ = some (.int .i64 e.op) ∧ W.cell? ⟨E, 2, none⟩ = some (.int .i64 e.int) ∧ W.cell? ⟨E, 3, none⟩ = some (.string e.name) ∧ W.cell? ⟨E, 4, none⟩ = some (.bool e.at_) ∧ W.cell? ⟨E, 5, none⟩ = some (.slice p N c) ∧ W.cell? ⟨X, 0, none⟩ = some (.int .i64 x.kind) ∧ W.cell? ⟨X, 1, none⟩ = some (.int .i64 x.op) ∧ W.cell? ⟨X, 2, none⟩ = some (.int .i64 x.int) ∧ W.cell? ⟨X, 3, none⟩ = some (.string x.name) ∧ W.cell? ⟨X, 4, none⟩ = some (.bool x.at_) ∧ W.cell? ⟨X, 5, none⟩ = some (.slice p1 NX c1)) (by kernel_rfl) (by rw [← HW.out]; exact ⟨(C7.out.rd 2 rfl) 0 _ rfl, (C7.out.rd 2 rfl) 1 _ rfl, (C7.out.rd 2 rfl) 2 _ rfl, (C7.out.rd 2 rfl) 3 _ rfl, (C7.out.rd 2 rfl) 4 _ rfl, (C7.out.rd 2 rfl) 5 _ rfl, (C7.out.rd 0 rfl) 0 _ rfl, (C7.out.rd 0 rfl) 1 _ rfl, (C7.out.rd 0 rfl) 2 _ rfl, (C7.out.rd 0 rfl) 3 _ rfl, (C7.out.rd 0 rfl) 4 _ rfl, (C7.out.rd 0 rfl) 5 _ rfl⟩) (fun hHeld => ?_)
  rw [← HW.out] at hHeld ⊢
  clear HW C6
  refine rT 0 (some 11) ?_
  try simp only [Act.put, q0, q1, q2]
  refine rT 1 (some 12) ?_
  try simp only [Act.put, q0, q1, q2]
  refine rR1 2 (some 13) (fun K hK => ?_)
  go_simp
  clear hHeld
  have hk := FoldR_any e (.slice p N c) w7 HW.out HB.out (C7.out.rd 3 rfl)
  unfold exprV at hk
  refine hk.mono ?_
  clear hk
  rintro e w8 ⟨a9, rfl, hbx9, hsx9, hb9⟩
  rw [HX0.out] at hbx9 hsx9 ⊢
  obtain ⟨p2, c2, rfl, _⟩ := hsx9.form
  clear hbx9
  have hNX := HNX.out
  rw [hNX] at hsx9 ⊢
  clear hNX
  unfold exprV
  have C8 := Lib.hid (Mo.add (Mz.below C7.out hb9) (r := RE (.slice p2 NX c2) x.args) re_mn (hsx9))
  clear hb9 C7
  go_wp2_with fail
  refine hK.out _ _ ?_ (fun hHeld => ?_)
  ·exact ⟨(C8.out.rd 3 rfl) 0 _ rfl, (C8.out.rd 3 rfl) 1 _ rfl, (C8.out.rd 3 rfl) 2 _ rfl, (C8.out.rd 3 rfl) 3 _ rfl, (C8.out.rd 3 rfl) 4 _ rfl, (C8.out.rd 3 rfl) 5 _ rfl, (C8.out.rd 1 rfl) 0 _ rfl, (C8.out.rd 1 rfl) 1 _ rfl, (C8.out.rd 1 rfl) 2 _ rfl, (C8.out.rd 1 rfl) 3 _ rfl, (C8.out.rd 1 rfl) 4 _ rfl, (C8.out.rd 1 rfl) 5 _ rfl⟩
  clear hK K
  try simp only [Act.put, q0, q1, q2]
  refine rR1 3 (some 14) (fun K hK => ?_)
  go_simp
  clear hHeld
  have hk := refSameExpr_any x.deep x x (.slice p1 NX c1) (.slice p2 NX c2) w8 (Nat.le_refl _) (C8.out.rd 2 rfl) (C8.out.rd 0 rfl)
  unfold exprV at hk
  refine hk.mono ?_
  clear hk
  rintro e w9 ⟨rfl, hb9⟩
  rw [sameE_refl']
  have C9 := Lib.hid (Mz.below C8.out hb9)
  clear hb9 C8
  go_wp2_with fail
  refine hK.out _ _ ?_ (fun hHeld => ?_)
  ·exact ⟨(C9.out.rd 3 rfl) 0 _ rfl, (C9.out.rd 3 rfl) 1 _ rfl, (C9.out.rd 3 rfl) 2 _ rfl, (C9.out.rd 3 rfl) 3 _ rfl, (C9.out.rd 3 rfl) 4 _ rfl, (C9.out.rd 3 rfl) 5 _ rfl, (C9.out.rd 1 rfl) 0 _ rfl, (C9.out.rd 1 rfl) 1 _ rfl, (C9.out.rd 1 rfl) 2 _ rfl, (C9.out.rd 1 rfl) 3 _ rfl, (C9.out.rd 1 rfl) 4 _ rfl, (C9.out.rd 1 rfl) 5 _ rfl⟩
  clear hK K
  try simp only [Act.put, q0, q1, q2]
  refine rT 4 (some 15) ?_
  try simp only [Act.put, q0, q1, q2]
  refine rT 5 (some 16) ?_
  try simp only [Act.put, q0, q1, q2]
  refine rT 7 (some 18) ?_
  try simp only [Act.put, q0, q1, q2]
  refine rR1 6 (some 17) (fun K hK => ?_)
  go_simp
  clear hHeld
  have hk := Fold_any x (.slice p1 NX c1) w9 (HE.out.keep C9.out.gr.fresh).syn.lex HWX.out HBX.out (C9.out.rd 2 rfl)
  unfold exprV at hk
  refine hk.mono ?_
  clear hk
  rintro e w10 ⟨a9, rfl, hbx9, hsx9, hb9⟩
  rw [HFX.out] at hbx9 hsx9 ⊢
  obtain ⟨p3, c3, rfl, _⟩ := hsx9.form
  clear hbx9
  have hNX := HNX.out
  rw [hNX] at hsx9 ⊢
  clear hNX
  unfold exprV
  have C10 := Lib.hid (Mo.add (Mz.below C9.out hb9) (r := RE (.slice p3 NX c3) x.args) re_mn (hsx9))
  clear hb9 C9
  go_wp2_with fail
  refine hK.out _ _ ?_ (fun hHeld => ?_)
  ·exact ⟨(C10.out.rd 4 rfl) 0 _ rfl, (C10.out.rd 4 rfl) 1 _ rfl, (C10.out.rd 4 rfl) 2 _ rfl, (C10.out.rd 4 rfl) 3 _ rfl, (C10.out.rd 4 rfl) 4 _ rfl, (C10.out.rd 4 rfl) 5 _ rfl, (C10.out.rd 2 rfl) 0 _ rfl, (C10.out.rd 2 rfl) 1 _ rfl, (C10.out.rd 2 rfl) 2 _ rfl, (C10.out.rd 2 rfl) 3 _ rfl, (C10.out.rd 2 rfl) 4 _ rfl, (C10.out.rd 2 rfl) 5 _ rfl⟩
  clear hK K
  try simp only [Act.put, q0, q1, q2]
  refine rR1 8 (some 19) (fun K hK => ?_)
  go_simp
  clear hHeld
  have hk := refSameExpr_any x.deep x x (.slice p3 NX c3) (.slice p1 NX c1) w10 (Nat.le_refl _) (C10.out.rd 0 rfl) (C10.out.rd 3 rfl)
  unfold exprV at hk
  refine hk.mono ?_
  clear hk
  rintro e w11 ⟨rfl, hb9⟩
  rw [sameE_refl']
  have C11 := Lib.hid (Mz.below C10.out hb9)
  clear hb9 C10
  go_wp2_with fail
  refine hK.out _ _ ?_ (fun hHeld => ?_)
  ·exact ⟨(C11.out.rd 4 rfl) 0 _ rfl, (C11.out.rd 4 rfl) 1 _ rfl, (C11.out.rd 4 rfl) 2 _ rfl, (C11.out.rd 4 rfl) 3 _ rfl, (C11.out.rd 4 rfl) 4 _ rfl, (C11.out.rd 4 rfl) 5 _ rfl, (C11.out.rd 2 rfl) 0 _ rfl, (C11.out.rd 2 rfl) 1 _ rfl, (C11.out.rd 2 rfl) 2 _ rfl, (C11.out.rd 2 rfl) 3 _ rfl, (C11.out.rd 2 rfl) 4 _ rfl, (C11.out.rd 2 rfl) 5 _ rfl⟩
  clear hK K
  try simp only [Act.put, q0, q1, q2]
  refine rT 9 (some 20) ?_
  try simp only [Act.put, q0, q1, q2]
  refine rT 10 (some 21) ?_
  try simp only [Act.put, q0, q1, q2]
  refine rT 11 (some 22) ?_
  try simp only [Act.put, q0, q1, q2]
  refine rT 13 (some 24) ?_
  try simp only [Act.put, q0, q1, q2]
  refine rR1 12 (some 23) (fun K hK => ?_)
  go_simp
  clear hHeld
  have hk := validExprR_any x.deep x (.slice p1 NX c1) w11 (Nat.le_refl _) HBX.out (C11.out.rd 3 rfl)
  unfold exprV at hk
  refine hk.mono ?_
  clear hk
  rintro e w12 ⟨rfl, hb9⟩
  rw [HVX.out]
  have C12 := Lib.hid (Mz.below C11.out hb9)
  clear hb9 C11
  go_wp2_with fail
  refine hK.out _ _ ?_ (fun hHeld => ?_)
  ·exact ⟨(C12.out.rd 4 rfl) 0 _ rfl, (C12.out.rd 4 rfl) 1 _ rfl, (C12.out.rd 4 rfl) 2 _ rfl, (C12.out.rd 4 rfl) 3 _ rfl, (C12.out.rd 4 rfl) 4 _ rfl, (C12.out.rd 4 rfl) 5 _ rfl, (C12.out.rd 2 rfl) 0 _ rfl, (C12.out.rd 2 rfl) 1 _ rfl, (C12.out.rd 2 rfl) 2 _ rfl, (C12.out.rd 2 rfl) 3 _ rfl, (C12.out.rd 2 rfl) 4 _ rfl, (C12.out.rd 2 rfl) 5 _ rfl⟩
  clear hK K
  try simp only [Act.put, q0, q1, q2]
  refine rR1 14 (some 25) (fun K hK => ?_)
  go_simp
  clear hHeld
  have hk := validExprR_any e.deep e (.slice p N c) w12 (Nat.le_refl _) HB.out (C12.out.rd 5 rfl)
  unfold exprV at hk
  refine hk.mono ?_
  clear hk
  rintro e w13 ⟨rfl, hb9⟩
  have C13 := Lib.hid (Mz.below C12.out hb9)
  clear hb9 C12
  go_wp2_with fail
  refine hK.out _ _ ?_ (fun hHeld => ?_)
  ·exact ⟨(C13.out.rd 4 rfl) 0 _ rfl, (C13.out.rd 4 rfl) 1 _ rfl, (C13.out.rd 4 rfl) 2 _ rfl, (C13.out.rd 4 rfl) 3 _ rfl, (C13.out.rd 4 rfl) 4 _ rfl, (C13.out.rd 4 rfl) 5 _ rfl, (C13.out.rd 2 rfl) 0 _ rfl, (C13.out.rd 2 rfl) 1 _ rfl, (C13.out.rd 2 rfl) 2 _ rfl, (C13.out.rd 2 rfl) 3 _ rfl, (C13.out.rd 2 rfl) 4 _ rfl, (C13.out.rd 2 rfl) 5 _ rfl⟩
  clear hK K
  try simp only [Act.put, q0, q1, q2]
  refine rT 15 (some 26) ?_
  try simp only [Act.put, q0, q1, q2]
  refine rT 16 (some 27) ?_
  try simp only [Act.put, q0, q1, q2]
  refine rT 17 (some 2) ?_
  try simp only [Act.put, q0, q1, q2]
  refine wpAnyH_done (by kernel_rfl) ?_ _
  clear hHeld
  go_wp2_with fail
  go_ret
  exact ⟨rfl, C13.out.gr.fresh⟩
end Cw
end Go.Proofs.YtcnmfcgmnkncaaaGreatDoor
namespace Go.Proofs.YtcnmfcgmnkncaaaGreatDoor
open Go.RowKit Go.Deep Go.ChangeShapes
section
variable {H : Type} {enc : TypeId × Value → H} {P : Program} {w : World} {base : Nat} {spare : Nat → Bool} {held : Bool}
theorem fields_one {t : TypeId} {fs : Array Field} {fuel : Nat} {cs : List Value} {x : DataW H × List MemPlace} (ht : P.underlying t = some (.struct fs)) (hone : oneCellFields P fs = true) (hC : P.cellsOf t = fs.size)
 (h : DataW.trod enc P w base spare held fuel t cs = some x) :
 ∃ n, fuel = n + 1 ∧ cs.length = fs.size ∧ ∀ (j : Nat) (f : Field), fs[j]? = some f → ∃ v y, cs[j]? = some v ∧ DataW.trod enc P w base spare held n f.type [v] = some y := by
 obtain ⟨xs, n, hn, _, hl, hxl, hf⟩ := DataW.trod_struct ht h
 refine ⟨n, hn, hl.trans hC, fun j f hj => ?_⟩
 obtain ⟨ho, hk⟩ := hone_of hone j f hj
 have hjl : j < fs.size := (Array.getElem?_eq_some_iff.1 hj).1
 have h1 := hf j f hj
 have hcl : j < cs.length := by rw [hl, hC]; exact hjl
 rw [ho, hk, take1_drop cs j undef hcl, List.getElem?_eq_getElem (by omega)] at h1
 exact ⟨cs.getD j undef, _, by simp [List.getD, List.getElem?_eq_getElem hcl], h1⟩
theorem elems_of {t e : TypeId} {k fuel : Nat} {cs : List Value} {x : DataW H × List MemPlace} (ht : P.underlying t = some (.slice e)) (hC : P.cellsOf e = k) (h : DataW.trod enc P w base spare held fuel t cs = some x) :
 cs = [.slice none 0 0] ∨ ∃ a len cap n, fuel = n + 1 ∧ cs = [.slice (some a) len cap] ∧ len ≤ cap ∧ cap ≤ maxLen ∧
  ∀ i, i < len → ∃ cs' y, cs'.length = k ∧ (∀ j, j < k → w.cell? (a.add (i * k + j)) = cs'[j]?) ∧ DataW.trod enc P w base spare held n e cs' = some y := by
 rcases DataW.trod_slice ht h with ⟨h0, _⟩ | ⟨a, len, cap, elems, rest, n, hn, hcs, _, hb, hl, hm, hlen, hel, _⟩
 ·exact .inl h0
 ·refine .inr ⟨a, len, cap, n, hn, hcs, hl, hm, fun i hi => ?_⟩
  have h1 := hel i hi
  rw [List.getElem?_eq_getElem (by omega)] at h1
  obtain ⟨cs', hc, ht'⟩ := Option.bind_eq_some_iff.1 h1
  rw [hC] at hc
  obtain ⟨_, hcl, hat⟩ := World.cells?_some hc
  exact ⟨cs', _, hcl, fun j hj => by rw [← add_add]; exact hat j hj, ht'⟩
theorem add_plain' {w : World} {a : Addr} {v : Value} (h : w.cell? (a.add 0) = some v) : a = ⟨a.block, a.off, none⟩ := by
 have h0 : a.add 0 = a := by simp [Addr.add]
 rw [h0] at h
 obtain ⟨b, o, s⟩ := a
 cases s with
 | none => rfl
 | some s =>
   unfold World.cell? at h
   split at h <;> simp at h
theorem addr_add (b o m : Nat) : (⟨b, o, none⟩ : Addr).add m = ⟨b, o + m, none⟩ := by unfold Addr.add; split <;> simp_all
theorem addr_at {w : World} {a : Addr} {i : Nat} {v : Value} (h : w.cell? (a.add i) = some v) (hi : ∃ u, w.cell? (a.add 0) = some u) : w.cell? ⟨a.block, a.off + i, none⟩ = some v := by
 obtain ⟨u, hu⟩ := hi
 have := add_plain' hu
 rw [this, addr_add] at h
 exact h
structure TypesE (P : Program) (tE tsE tInt tI64 tStr tBool : TypeId) : Prop where
 int : P.underlying tInt = some (.int .i64)
 i64 : P.underlying tI64 = some (.int .i64)
 str : P.underlying tStr = some .string
 bool : P.underlying tBool = some .bool
 sl : P.underlying tsE = some (.slice tE)
 st : ∃ fs, P.underlying tE = some (.struct fs) ∧ oneCellFields P fs = true ∧ fs.toList.map (·.type) = [tInt, tInt, tI64, tStr, tBool, tsE]
 size : P.cellsOf tE = 6
structure TypesS (P : Program) (tS tsS tE tsE tInt tI64 tStr tBool : TypeId) : Prop extends TypesE P tE tsE tInt tI64 tStr tBool where
 slS : P.underlying tsS = some (.slice tS)
 stS : ∃ fs, P.underlying tS = some (.struct fs) ∧ oneCellFields P fs = true ∧ fs.toList.map (·.type) = [tInt, tStr, tsE, tsS, tsS]
 sizeS : P.cellsOf tS = 5
structure TypesC (P : Program) (tP tC tsC tM tsM tsStr tS tsS tE tsE tInt tI64 tStr tBool : TypeId) : Prop extends TypesS P tS tsS tE tsE tInt tI64 tStr tBool where
 strs : P.underlying tsStr = some (.slice tStr)
 sizeStr : P.cellsOf tStr = 1
 slM : P.underlying tsM = some (.slice tM)
 stM : ∃ fs, P.underlying tM = some (.struct fs) ∧ oneCellFields P fs = true ∧ fs.toList.map (·.type) = [tStr, tsStr, tsS]
 sizeM : P.cellsOf tM = 3
 slC : P.underlying tsC = some (.slice tC)
 stC : ∃ fs, P.underlying tC = some (.struct fs) ∧ oneCellFields P fs = true ∧ fs.toList.map (·.type) = [tStr, tBool, tsStr, tsM]
 sizeC : P.cellsOf tC = 4
 stP : ∃ fs, P.underlying tP = some (.struct fs) ∧ oneCellFields P fs = true ∧ fs.toList.map (·.type) = [tsC]
 sizeP : P.cellsOf tP = 1
theorem field_of {fs : Array Field} {ts : List TypeId} (h : fs.toList.map (·.type) = ts) {j : Nat} {t : TypeId} (hj : ts[j]? = some t) : ∃ f, fs[j]? = some f ∧ f.type = t := by
 rw [← h, List.getElem?_map] at hj
 obtain ⟨f, hf, e⟩ := Option.map_eq_some_iff.1 hj
 exact ⟨f, by rw [← Array.getElem?_toList]; exact hf, e⟩
theorem i64_of {n : Int} (h : (Lit.int .i64 n).wf = true) : Tr.I64 n := by
 simp only [Lit.wf, Bool.and_eq_true, decide_eq_true_eq] at h
 exact ⟨h.1, h.2⟩
variable {tE tsE tInt tI64 tStr tBool : TypeId}
theorem open_expr_cells (T : TypesE P tE tsE tInt tI64 tStr tBool) {fuel : Nat} {cs : List Value} {x : DataW H × List MemPlace} (h : DataW.trod enc P w base spare held fuel tE cs = some x) :
 ∃ n k o i s b a y, fuel = n + 1 ∧ cs = [.int .i64 k, .int .i64 o, .int .i64 i, .string s, .bool b, a] ∧ Tr.I64 k ∧ Tr.I64 o ∧ Tr.I64 i ∧ s.size ≤ maxLen ∧ DataW.trod enc P w base spare held n tsE [a] = some y := by
 obtain ⟨fs, h1, h2, h3⟩ := T.st
 have hfs : fs.size = 6 := by
  have := congrArg List.length h3
  simpa using this
 obtain ⟨n, hn, hl, hf⟩ := fields_one h1 h2 (by rw [T.size, hfs]) h
 rw [hfs] at hl
 obtain ⟨f0, g0, e0⟩ := field_of h3 (j := 0) rfl
 obtain ⟨f1, g1, e1⟩ := field_of h3 (j := 1) rfl
 obtain ⟨f2, g2, e2⟩ := field_of h3 (j := 2) rfl
 obtain ⟨f3, g3, e3⟩ := field_of h3 (j := 3) rfl
 obtain ⟨f4, g4, e4⟩ := field_of h3 (j := 4) rfl
 obtain ⟨f5, g5, e5⟩ := field_of h3 (j := 5) rfl
 obtain ⟨v0, y0, c0, t0⟩ := hf 0 f0 g0
 obtain ⟨v1, y1, c1, t1⟩ := hf 1 f1 g1
 obtain ⟨v2, y2, c2, t2⟩ := hf 2 f2 g2
 obtain ⟨v3, y3, c3, t3⟩ := hf 3 f3 g3
 obtain ⟨v4, y4, c4, t4⟩ := hf 4 f4 g4
 obtain ⟨v5, y5, c5, t5⟩ := hf 5 f5 g5
 rw [e0] at t0; rw [e1] at t1; rw [e2] at t2; rw [e3] at t3; rw [e4] at t4; rw [e5] at t5
 obtain ⟨k, k1, _, k2⟩ := DataW.trod_int T.int t0
 obtain ⟨o, o1, _, o2⟩ := DataW.trod_int T.int t1
 obtain ⟨i, i1, _, i2⟩ := DataW.trod_int T.i64 t2
 obtain ⟨s, s1, _, s2⟩ := DataW.trod_string T.str t3
 obtain ⟨b, b1, _⟩ := DataW.trod_bool T.bool t4
 cases k1; cases o1; cases i1; cases s1; cases b1
 match cs, hl with
 | [u0, u1, u2, u3, u4, u5], _ =>
   simp at c0 c1 c2 c3 c4 c5
   subst c0 c1 c2 c3 c4 c5
   exact ⟨n, k, o, i, s, b, _, y5, hn, rfl, i64_of k2, i64_of o2, i64_of i2, s2, t5⟩
theorem open_exprs (T : TypesE P tE tsE tInt tI64 tStr tBool) : ∀ (fuel : Nat) {cs : List Value} {x : DataW H × List MemPlace}, DataW.trod enc P w base spare held fuel tsE cs = some x → ∃ v l, cs = [v] ∧ SlE w v l := by
 intro fuel
 induction fuel using Nat.strongRecOn with
 | ind fuel ih =>
   intro cs x h
   rcases elems_of T.sl T.size h with rfl | ⟨a, len, cap, n, rfl, rfl, hl, hm, hel⟩
   ·exact ⟨_, [], rfl, .nil _ _⟩
   ·have key : ∀ i, i < len → ∃ (z : Tr.E × Value), CellsE w a.block (a.off + i * 6) z.1 z.2 ∧ BdE z.1 ∧ SlE w z.2 z.1.args := by
     intro i hi
     obtain ⟨cs', y, hcl, hat, ht⟩ := hel i hi
     obtain ⟨n2, k, o, i2, s, b, v, y2, hn2, rfl, w1, w2, w3, w4, ht2⟩ := open_expr_cells T ht
     obtain ⟨v', l, hv, hs⟩ := ih n2 (by omega) ht2
     cases hv
     obtain ⟨cs0, y0, hcl0, hat0, _⟩ := hel 0 (by omega)
     have hz : ∃ u, w.cell? (a.add 0) = some u := by
      have := hat0 0 (by omega)
      rw [Nat.zero_mul, Nat.zero_add, List.getElem?_eq_getElem (by omega)] at this
      exact ⟨_, this⟩
     have at_ : ∀ j u, j < 6 → ([Value.int .i64 k, .int .i64 o, .int .i64 i2, .string s, .bool b, v] : List Value)[j]? = some u → w.cell? ⟨a.block, a.off + i * 6 + j, none⟩ = some u := by
      intro j u hj hu
      have := addr_at ((hat j hj).trans hu) hz
      rw [← Nat.add_assoc] at this
      exact this
     exact ⟨(.mk k o i2 s b l, v), ⟨at_ 0 _ (by omega) rfl, at_ 1 _ (by omega) rfl, at_ 2 _ (by omega) rfl, at_ 3 _ (by omega) rfl, at_ 4 _ (by omega) rfl, at_ 5 _ (by omega) rfl⟩, ⟨w1, w2, w3, w4⟩, hs⟩
    haveI : Inhabited (Tr.E × Value) := ⟨(.mk 0 0 0 ⟨#[]⟩ false [], undef)⟩
    obtain ⟨F, hF⟩ := choose_lt key
    by_cases h0 : len = 0
    ·subst h0; exact ⟨_, [], rfl, .nil _ _⟩
    ·obtain ⟨cs0, y0, hcl0, hat0, _⟩ := hel 0 (by omega)
     have hz := hat0 0 (by omega)
     rw [Nat.zero_mul, Nat.zero_add, List.getElem?_eq_getElem (by omega)] at hz
     have ha := add_plain' hz
     have hgl : ∀ j e, ((List.range len).map fun i => (F i).1)[j]? = some e → j < len ∧ e = (F j).1 := by
      intro j e hj
      have hlt : j < len := by
       have := (List.getElem?_eq_some_iff.1 hj).1
       simpa using this
      rw [List.getElem?_map, List.getElem?_range hlt] at hj
      exact ⟨hlt, by cases hj; rfl⟩
     have hlen : ((List.range len).map fun i => (F i).1).length = len := by simp
     refine ⟨.slice (some a) len cap, (List.range len).map fun i => (F i).1, rfl, ?_⟩
     have := SlE.row (w := w) a.block a.off cap ((List.range len).map fun i => (F i).1) (fun i => (F i).2) (by omega) hm
      (fun j e hj => by obtain ⟨h1, rfl⟩ := hgl j e hj; exact ⟨(hF j h1).1, (hF j h1).2.1⟩) (fun j e hj => by obtain ⟨h1, rfl⟩ := hgl j e hj; exact (hF j h1).2.2)
     rw [hlen, ← ha] at this
     exact this
variable {tS tsS : TypeId}
variable {tP tC tsC tM tsM tsStr : TypeId}
end
end Go.Proofs.YtcnmfcgmnkncaaaGreatDoor
