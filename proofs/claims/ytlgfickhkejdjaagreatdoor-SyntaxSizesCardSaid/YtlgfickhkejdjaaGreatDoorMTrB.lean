/-
  Several texts in one: TrAllE, TrAllS, TrAllN, TrAllM, TrAllC.
-/
import Derived.Test.YtlgfickhkejdjaaGreatDoorMTrProgA
namespace Go.Proofs.YtlgfickhkejdjaaGreatDoor
open Go.RowKit

/-- the value reads as the element -/
def ReadE (W : World) (x : Tr.E) (a : Value) : Prop := BdE x ∧ SlE W a x.args
theorem ReadE.keep {w w' : World} {x : Tr.E} {a : Value} (h : ReadE w x a) (hb : Below w.heap.size w w') : ReadE w' x a := ⟨h.1, h.2.keep hb⟩
/-- the function that is handed in says q of each element of l, in every world behind w -/
def HoldsE (w : World) (q : Tr.E → Bool) (l : List Tr.E) : Prop :=
  ∀ (W : World) (j : Nat) (x : Tr.E) (a : Value), Below w.heap.size w W → l[j]? = some x → ReadE W x a → Calls Tryz.prog 13 #[exprV x a] W fun e w' => e = .returned (.bool (q x)) ∧ Below W.heap.size W w'

set_option maxRecDepth 100000 in
set_option maxHeartbeats 2000000 in
theorem all1E_any (q : Tr.E → Bool) (w0 : World) (l : List Tr.E) (H : HoldsE w0 q l) (B : Nat) (W : World) (hW : Below w0.heap.size w0 W) (hB : W.cell? ⟨B, 0, none⟩ = some (.func (.func 13) #[] #[]))
    (j : Nat) (x : Tr.E) (a : Value) (hx : l[j]? = some x) (h : ReadE W x a) :
    Calls Tryz.prog 120 #[exprV x a, .pointer (some ⟨B, 0, none⟩)] W fun e w' => e = .returned (.bool (!q x)) ∧ Below W.heap.size W w' := by
  have HR := Lib.hid h
  obtain ⟨pa, ca, rfl, _⟩ := h.2.form
  obtain ⟨AN, hAN⟩ : ∃ N, x.args.length = N := ⟨_, rfl⟩
  rw [hAN]
  rw [hAN] at HR
  unfold exprV
  have hbx := below_box W (.cells #[.int .i64 x.kind, .int .i64 x.op, .int .i64 x.int, .string x.name, .bool x.at_, .slice pa AN ca] 24)
  have hcall := H _ j x _ (below_next hW hbx) hx (HR.out.keep hbx)
  unfold exprV at hcall
  have HC := Lib.hid hcall
  have HBX := Lib.hid hbx
  have hB' := cell_keep' hbx hB
  clear h hcall hbx H
  go_enter Tryz.func120, Tryz.ntmps120
  go_wp2_with fail
  refine HC.out.mono ?_
  rintro e w2 ⟨rfl, hb2⟩
  go_wp2_with fail
  go_ret
  exact ⟨rfl, HBX.out.trans (hb2.mono HBX.out.size)⟩

set_option maxRecDepth 100000 in
set_option maxHeartbeats 2000000 in
theorem indexE_any (q : Tr.E → Bool) (w0 : World) (l : List Tr.E) (H : HoldsE w0 q l) (B : Nat) (W : World) (hW : Below w0.heap.size w0 W) (hB : W.cell? ⟨B, 0, none⟩ = some (.func (.func 13) #[] #[])) (v : Value) (hS : SlE W v l) :
    Calls Tryz.prog 139 #[v, .func (.func 120) #[] #[.pointer (some ⟨B, 0, none⟩)]] W (IdxPost (!l.all q) W) := by
  obtain ⟨p, c, rfl, _⟩ := hS.form
  have hll := hS.len
  unfold maxLen at hll
  obtain ⟨N, hN⟩ : ∃ N, l.length = N := ⟨_, rfl⟩
  rw [hN] at hS hll ⊢
  have HS := Lib.hid hS
  have HN := Lib.hid hN
  have HH := Lib.hid H
  have HW := Lib.hid hW
  clear hS hN H hW
  go_enter Tryz.func139, Tryz.ntmps139
  go_wp2
  go_loopw [8] (fun s8 wr => ∃ j : Nat, s8 = .int .i64 j ∧ j ≤ N ∧ (∀ t x, t < j → l[t]? = some x → q x = true) ∧ Below W.heap.size W wr) (fun s8 _ => N - (intOf s8).toNat)
  case atStart => exact ⟨0, rfl, Nat.zero_le _, fun t x ht => by omega, Below.refl _ _⟩
  case round =>
    obtain ⟨j, rfl, hj, hall, hbr⟩ := hrel
    have HA := Lib.hid hall
    have HBR := Lib.hid hbr
    have HB1 := Lib.hid (cell_keep' hbr hB)
    clear hall
    by_cases hlt : j < N
    · obtain ⟨x, hx⟩ : ∃ x, l[j]? = some x := ⟨_, List.getElem?_eq_getElem (by rw [HN.out]; exact hlt)⟩
      obtain ⟨b, oo, a, rfl, _, hc, hbd, hsl⟩ := (HS.out.keep hbr).get hx
      obtain ⟨x0, x1, x2, x3, x4, x5⟩ := hc
      have hr : ReadE wr x a := ⟨hbd, hsl⟩
      have hcall := all1E_any q w0 l HH.out B wr (below_next HW.out HBR.out) HB1.out j x _ hx hr
      unfold exprV at hcall
      have HX := Lib.hid hx
      clear hx hr hbr hbd hsl
      cases hv : q x
      · rw [hv] at hcall
        have HCL := Lib.hid hcall
        have hf := Lib.hid (all_no HX.out hv)
        clear hcall hv
        go_wp2_with fail
        refine HCL.out.mono ?_
        rintro e w2 ⟨rfl, hb2⟩
        go_wp2_with fail
        go_ret
        exact ⟨(j : Int), rfl, by rw [hf.out]; simp, below_next HBR.out hb2⟩
      · rw [hv] at hcall
        have HCL := Lib.hid hcall
        have HV := Lib.hid hv
        clear hcall hv
        go_wp2_with fail
        refine HCL.out.mono ?_
        rintro e w2 ⟨rfl, hb2⟩
        go_wp2_with fail
        go_roundw
        case rel =>
          refine ⟨j + 1, by go_num, by omega, fun t y ht hty => ?_, below_next HBR.out hb2⟩
          by_cases e : t = j
          · subst e; rw [HX.out] at hty; cases hty; exact HV.out
          · exact HA.out t y (by omega) hty
        case measure => simp [intOf]; omega
    · have hf := Lib.hid (all_get HN.out (p := q) (fun t x ht => HA.out t x (by omega)))
      clear hbr
      go_wp2_with fail
      go_ret
      exact ⟨-1, rfl, by rw [hf.out]; simp, HBR.out⟩

set_option maxHeartbeats 1000000 in
theorem containsE_any (q : Tr.E → Bool) (w0 : World) (l : List Tr.E) (H : HoldsE w0 q l) (B : Nat) (W : World) (hW : Below w0.heap.size w0 W) (hB : W.cell? ⟨B, 0, none⟩ = some (.func (.func 13) #[] #[])) (v : Value) (hS : SlE W v l) :
    Calls Tryz.prog 119 #[v, .func (.func 120) #[] #[.pointer (some ⟨B, 0, none⟩)]] W fun e w' => e = .returned (.bool (!l.all q)) ∧ Below W.heap.size W w' := by
  have HI := Lib.hid (indexE_any q w0 l H B W hW hB v hS)
  obtain ⟨p, c, rfl, _⟩ := hS.form
  clear H hB hS hW
  go_enter Tryz.func119, Tryz.ntmps119
  go_wp2_with fail
  refine HI.out.mono ?_
  rintro e w2 ⟨i, rfl, hi, hb⟩
  have HII := Lib.hid hi
  clear hi
  go_wp2_with fail
  go_ret
  exact ⟨ret_bool HII.out, hb⟩

set_option maxHeartbeats 1000000 in
theorem allE_any (q : Tr.E → Bool) (l : List Tr.E) (W : World) (H : HoldsE W q l) (v : Value) (hS : SlE W v l) :
    Calls Tryz.prog 86 #[v, .func (.func 13) #[] #[]] W fun e w' => e = .returned (.bool (l.all q)) ∧ Below W.heap.size W w' := by
  have hbx := below_box W (.cells #[.func (.func 13) #[] #[]] 27)
  have HI := Lib.hid (containsE_any q W l H W.heap.size _ hbx (box_cell W #[.func (.func 13) #[] #[]] 27 0 _ rfl) v (hS.keep hbx))
  have HBX := Lib.hid hbx
  obtain ⟨p, c, rfl, _⟩ := hS.form
  clear H hS hbx
  go_enter Tryz.func86, Tryz.ntmps86
  go_wp2_with fail
  refine HI.out.mono ?_
  rintro e w2 ⟨rfl, hb⟩
  go_wp2_with fail
  go_ret
  exact ⟨rfl, HBX.out.trans (hb.mono HBX.out.size)⟩
end Go.Proofs.YtlgfickhkejdjaaGreatDoor

namespace Go.Proofs.YtlgfickhkejdjaaGreatDoor
open Go.RowKit

/-- the value reads as the element -/
def ReadS (W : World) (x : Tr.S) (a1 a2 a3 : Value) : Prop := BdS x ∧ SlE W a1 x.exprs ∧ SlS W a2 x.body ∧ SlS W a3 x.els
theorem ReadS.keep {w w' : World} {x : Tr.S} {a1 a2 a3 : Value} (h : ReadS w x a1 a2 a3) (hb : Below w.heap.size w w') : ReadS w' x a1 a2 a3 := ⟨h.1, h.2.1.keep hb, h.2.2.1.keep hb, h.2.2.2.keep hb⟩
/-- the function that is handed in says q of each element of l, in every world behind w -/
def HoldsS (w : World) (q : Tr.S → Bool) (l : List Tr.S) : Prop :=
  ∀ (W : World) (j : Nat) (x : Tr.S) (a1 a2 a3 : Value), Below w.heap.size w W → l[j]? = some x → ReadS W x a1 a2 a3 → Calls Tryz.prog 52 #[stmtV x a1 a2 a3] W fun e w' => e = .returned (.bool (q x)) ∧ Below W.heap.size W w'

set_option maxRecDepth 100000 in
set_option maxHeartbeats 2000000 in
theorem all1S_any (q : Tr.S → Bool) (w0 : World) (l : List Tr.S) (H : HoldsS w0 q l) (B : Nat) (W : World) (hW : Below w0.heap.size w0 W) (hB : W.cell? ⟨B, 0, none⟩ = some (.func (.func 52) #[] #[]))
    (j : Nat) (x : Tr.S) (a1 a2 a3 : Value) (hx : l[j]? = some x) (h : ReadS W x a1 a2 a3) :
    Calls Tryz.prog 85 #[stmtV x a1 a2 a3, .pointer (some ⟨B, 0, none⟩)] W fun e w' => e = .returned (.bool (!q x)) ∧ Below W.heap.size W w' := by
  have HR := Lib.hid h
  obtain ⟨pa, ca, rfl, _⟩ := h.2.1.form
  obtain ⟨pb, cb, rfl, _⟩ := h.2.2.1.form
  obtain ⟨pc, cc, rfl, _⟩ := h.2.2.2.form
  obtain ⟨AN, hAN⟩ : ∃ N, x.exprs.length = N := ⟨_, rfl⟩
  obtain ⟨BN, hBN⟩ : ∃ N, x.body.length = N := ⟨_, rfl⟩
  obtain ⟨CN, hCN⟩ : ∃ N, x.els.length = N := ⟨_, rfl⟩
  rw [hAN, hBN, hCN]
  rw [hAN, hBN, hCN] at HR
  unfold stmtV
  have hbx := below_box W (.cells #[.int .i64 x.kind, .string x.name, .slice pa AN ca, .slice pb BN cb, .slice pc CN cc] 46)
  have hcall := H _ j x _ _ _ (below_next hW hbx) hx (HR.out.keep hbx)
  unfold stmtV at hcall
  have HC := Lib.hid hcall
  have HBX := Lib.hid hbx
  have hB' := cell_keep' hbx hB
  clear h hcall hbx H
  go_enter Tryz.func85, Tryz.ntmps85
  go_wp2_with fail
  refine HC.out.mono ?_
  rintro e w2 ⟨rfl, hb2⟩
  go_wp2_with fail
  go_ret
  exact ⟨rfl, HBX.out.trans (hb2.mono HBX.out.size)⟩

set_option maxRecDepth 100000 in
set_option maxHeartbeats 2000000 in
theorem indexS_any (q : Tr.S → Bool) (w0 : World) (l : List Tr.S) (H : HoldsS w0 q l) (B : Nat) (W : World) (hW : Below w0.heap.size w0 W) (hB : W.cell? ⟨B, 0, none⟩ = some (.func (.func 52) #[] #[])) (v : Value) (hS : SlS W v l) :
    Calls Tryz.prog 118 #[v, .func (.func 85) #[] #[.pointer (some ⟨B, 0, none⟩)]] W (IdxPost (!l.all q) W) := by
  obtain ⟨p, c, rfl, _⟩ := hS.form
  have hll := hS.len
  unfold maxLen at hll
  obtain ⟨N, hN⟩ : ∃ N, l.length = N := ⟨_, rfl⟩
  rw [hN] at hS hll ⊢
  have HS := Lib.hid hS
  have HN := Lib.hid hN
  have HH := Lib.hid H
  have HW := Lib.hid hW
  clear hS hN H hW
  go_enter Tryz.func118, Tryz.ntmps118
  go_wp2
  go_loopw [8] (fun s8 wr => ∃ j : Nat, s8 = .int .i64 j ∧ j ≤ N ∧ (∀ t x, t < j → l[t]? = some x → q x = true) ∧ Below W.heap.size W wr) (fun s8 _ => N - (intOf s8).toNat)
  case atStart => exact ⟨0, rfl, Nat.zero_le _, fun t x ht => by omega, Below.refl _ _⟩
  case round =>
    obtain ⟨j, rfl, hj, hall, hbr⟩ := hrel
    have HA := Lib.hid hall
    have HBR := Lib.hid hbr
    have HB1 := Lib.hid (cell_keep' hbr hB)
    clear hall
    by_cases hlt : j < N
    · obtain ⟨x, hx⟩ : ∃ x, l[j]? = some x := ⟨_, List.getElem?_eq_getElem (by rw [HN.out]; exact hlt)⟩
      obtain ⟨b, oo, a1, a2, a3, rfl, _, hc, hbd, hsx, hsy, hsz⟩ := (HS.out.keep hbr).get hx
      obtain ⟨x0, x1, x2, x3, x4⟩ := hc
      have hr : ReadS wr x a1 a2 a3 := ⟨hbd, hsx, hsy, hsz⟩
      have hcall := all1S_any q w0 l HH.out B wr (below_next HW.out HBR.out) HB1.out j x _ _ _ hx hr
      unfold stmtV at hcall
      have HX := Lib.hid hx
      clear hx hr hbr hbd hsx hsy hsz
      cases hv : q x
      · rw [hv] at hcall
        have HCL := Lib.hid hcall
        have hf := Lib.hid (all_no HX.out hv)
        clear hcall hv
        go_wp2_with fail
        refine HCL.out.mono ?_
        rintro e w2 ⟨rfl, hb2⟩
        go_wp2_with fail
        go_ret
        exact ⟨(j : Int), rfl, by rw [hf.out]; simp, below_next HBR.out hb2⟩
      · rw [hv] at hcall
        have HCL := Lib.hid hcall
        have HV := Lib.hid hv
        clear hcall hv
        go_wp2_with fail
        refine HCL.out.mono ?_
        rintro e w2 ⟨rfl, hb2⟩
        go_wp2_with fail
        go_roundw
        case rel =>
          refine ⟨j + 1, by go_num, by omega, fun t y ht hty => ?_, below_next HBR.out hb2⟩
          by_cases e : t = j
          · subst e; rw [HX.out] at hty; cases hty; exact HV.out
          · exact HA.out t y (by omega) hty
        case measure => simp [intOf]; omega
    · have hf := Lib.hid (all_get HN.out (p := q) (fun t x ht => HA.out t x (by omega)))
      clear hbr
      go_wp2_with fail
      go_ret
      exact ⟨-1, rfl, by rw [hf.out]; simp, HBR.out⟩

set_option maxHeartbeats 1000000 in
theorem containsS_any (q : Tr.S → Bool) (w0 : World) (l : List Tr.S) (H : HoldsS w0 q l) (B : Nat) (W : World) (hW : Below w0.heap.size w0 W) (hB : W.cell? ⟨B, 0, none⟩ = some (.func (.func 52) #[] #[])) (v : Value) (hS : SlS W v l) :
    Calls Tryz.prog 84 #[v, .func (.func 85) #[] #[.pointer (some ⟨B, 0, none⟩)]] W fun e w' => e = .returned (.bool (!l.all q)) ∧ Below W.heap.size W w' := by
  have HI := Lib.hid (indexS_any q w0 l H B W hW hB v hS)
  obtain ⟨p, c, rfl, _⟩ := hS.form
  clear H hB hS hW
  go_enter Tryz.func84, Tryz.ntmps84
  go_wp2_with fail
  refine HI.out.mono ?_
  rintro e w2 ⟨i, rfl, hi, hb⟩
  have HII := Lib.hid hi
  clear hi
  go_wp2_with fail
  go_ret
  exact ⟨ret_bool HII.out, hb⟩

set_option maxHeartbeats 1000000 in
theorem allS_any (q : Tr.S → Bool) (l : List Tr.S) (W : World) (H : HoldsS W q l) (v : Value) (hS : SlS W v l) :
    Calls Tryz.prog 51 #[v, .func (.func 52) #[] #[]] W fun e w' => e = .returned (.bool (l.all q)) ∧ Below W.heap.size W w' := by
  have hbx := below_box W (.cells #[.func (.func 52) #[] #[]] 77)
  have HI := Lib.hid (containsS_any q W l H W.heap.size _ hbx (box_cell W #[.func (.func 52) #[] #[]] 77 0 _ rfl) v (hS.keep hbx))
  have HBX := Lib.hid hbx
  obtain ⟨p, c, rfl, _⟩ := hS.form
  clear H hS hbx
  go_enter Tryz.func51, Tryz.ntmps51
  go_wp2_with fail
  refine HI.out.mono ?_
  rintro e w2 ⟨rfl, hb⟩
  go_wp2_with fail
  go_ret
  exact ⟨rfl, HBX.out.trans (hb.mono HBX.out.size)⟩
end Go.Proofs.YtlgfickhkejdjaaGreatDoor

namespace Go.Proofs.YtlgfickhkejdjaaGreatDoor
open Go.RowKit

/-- the value reads as the element -/
def ReadN (_W : World) (x : ByteArray) : Prop := x.size ≤ maxLen
theorem ReadN.keep {w w' : World} {x : ByteArray} (h : ReadN w x ) (_hb : Below w.heap.size w w') : ReadN w' x  := h
/-- the function that is handed in says q of each element of l, in every world behind w -/
def HoldsN (w : World) (q : ByteArray → Bool) (l : List ByteArray) : Prop :=
  ∀ (W : World) (j : Nat) (x : ByteArray), Below w.heap.size w W → l[j]? = some x → ReadN W x  → Calls Tryz.prog 38 #[.string x] W fun e w' => e = .returned (.bool (q x)) ∧ Below W.heap.size W w'

set_option maxRecDepth 100000 in
set_option maxHeartbeats 2000000 in
theorem all1N_any (q : ByteArray → Bool) (w0 : World) (l : List ByteArray) (H : HoldsN w0 q l) (B : Nat) (W : World) (hW : Below w0.heap.size w0 W) (hB : W.cell? ⟨B, 0, none⟩ = some (.func (.func 38) #[] #[]))
    (j : Nat) (x : ByteArray) (hx : l[j]? = some x) (h : ReadN W x ) :
    Calls Tryz.prog 83 #[.string x, .pointer (some ⟨B, 0, none⟩)] W fun e w' => e = .returned (.bool (!q x)) ∧ Below W.heap.size W w' := by
  have HR := Lib.hid h
  have hcall := H _ j x hW hx HR.out
  have HC := Lib.hid hcall
  clear h hcall H
  go_enter Tryz.func83, Tryz.ntmps83
  go_wp2_with fail
  refine HC.out.mono ?_
  rintro e w2 ⟨rfl, hb2⟩
  go_wp2_with fail
  go_ret
  exact ⟨rfl, hb2⟩

set_option maxRecDepth 100000 in
set_option maxHeartbeats 2000000 in
theorem indexN_any (q : ByteArray → Bool) (w0 : World) (l : List ByteArray) (H : HoldsN w0 q l) (B : Nat) (W : World) (hW : Below w0.heap.size w0 W) (hB : W.cell? ⟨B, 0, none⟩ = some (.func (.func 38) #[] #[])) (v : Value) (hS : SlStr W v l) :
    Calls Tryz.prog 117 #[v, .func (.func 83) #[] #[.pointer (some ⟨B, 0, none⟩)]] W (IdxPost (!l.all q) W) := by
  obtain ⟨p, c, rfl⟩ := hS.form
  have hll := hS.len
  unfold maxLen at hll
  obtain ⟨N, hN⟩ : ∃ N, l.length = N := ⟨_, rfl⟩
  rw [hN] at hS hll ⊢
  have HS := Lib.hid hS
  have HN := Lib.hid hN
  have HH := Lib.hid H
  have HW := Lib.hid hW
  clear hS hN H hW
  go_enter Tryz.func117, Tryz.ntmps117
  go_wp2
  go_loopw [8] (fun s8 wr => ∃ j : Nat, s8 = .int .i64 j ∧ j ≤ N ∧ (∀ t x, t < j → l[t]? = some x → q x = true) ∧ Below W.heap.size W wr) (fun s8 _ => N - (intOf s8).toNat)
  case atStart => exact ⟨0, rfl, Nat.zero_le _, fun t x ht => by omega, Below.refl _ _⟩
  case round =>
    obtain ⟨j, rfl, hj, hall, hbr⟩ := hrel
    have HA := Lib.hid hall
    have HBR := Lib.hid hbr
    have HB1 := Lib.hid (cell_keep' hbr hB)
    clear hall
    by_cases hlt : j < N
    · obtain ⟨x, hx⟩ : ∃ x, l[j]? = some x := ⟨_, List.getElem?_eq_getElem (by rw [HN.out]; exact hlt)⟩
      obtain ⟨p2, c2, e2, _, _, hcell⟩ := HS.out.keep hbr
      cases e2
      obtain ⟨hsz, b, oo, rfl, _, hc⟩ := hcell j x hx
      have hr : ReadN wr x := hsz
      clear hcell
      have hcall := all1N_any q w0 l HH.out B wr (below_next HW.out HBR.out) HB1.out j x  hx hr
      have HX := Lib.hid hx
      clear hx hr hbr hsz
      cases hv : q x
      · rw [hv] at hcall
        have HCL := Lib.hid hcall
        have hf := Lib.hid (all_no HX.out hv)
        clear hcall hv
        go_wp2_with fail
        refine HCL.out.mono ?_
        rintro e w2 ⟨rfl, hb2⟩
        go_wp2_with fail
        go_ret
        exact ⟨(j : Int), rfl, by rw [hf.out]; simp, below_next HBR.out hb2⟩
      · rw [hv] at hcall
        have HCL := Lib.hid hcall
        have HV := Lib.hid hv
        clear hcall hv
        go_wp2_with fail
        refine HCL.out.mono ?_
        rintro e w2 ⟨rfl, hb2⟩
        go_wp2_with fail
        go_roundw
        case rel =>
          refine ⟨j + 1, by go_num, by omega, fun t y ht hty => ?_, below_next HBR.out hb2⟩
          by_cases e : t = j
          · subst e; rw [HX.out] at hty; cases hty; exact HV.out
          · exact HA.out t y (by omega) hty
        case measure => simp [intOf]; omega
    · have hf := Lib.hid (all_get HN.out (p := q) (fun t x ht => HA.out t x (by omega)))
      clear hbr
      go_wp2_with fail
      go_ret
      exact ⟨-1, rfl, by rw [hf.out]; simp, HBR.out⟩

set_option maxHeartbeats 1000000 in
theorem containsN_any (q : ByteArray → Bool) (w0 : World) (l : List ByteArray) (H : HoldsN w0 q l) (B : Nat) (W : World) (hW : Below w0.heap.size w0 W) (hB : W.cell? ⟨B, 0, none⟩ = some (.func (.func 38) #[] #[])) (v : Value) (hS : SlStr W v l) :
    Calls Tryz.prog 82 #[v, .func (.func 83) #[] #[.pointer (some ⟨B, 0, none⟩)]] W fun e w' => e = .returned (.bool (!l.all q)) ∧ Below W.heap.size W w' := by
  have HI := Lib.hid (indexN_any q w0 l H B W hW hB v hS)
  obtain ⟨p, c, rfl⟩ := hS.form
  clear H hB hS hW
  go_enter Tryz.func82, Tryz.ntmps82
  go_wp2_with fail
  refine HI.out.mono ?_
  rintro e w2 ⟨i, rfl, hi, hb⟩
  have HII := Lib.hid hi
  clear hi
  go_wp2_with fail
  go_ret
  exact ⟨ret_bool HII.out, hb⟩

set_option maxHeartbeats 1000000 in
theorem allN_any (q : ByteArray → Bool) (l : List ByteArray) (W : World) (H : HoldsN W q l) (v : Value) (hS : SlStr W v l) :
    Calls Tryz.prog 50 #[v, .func (.func 38) #[] #[]] W fun e w' => e = .returned (.bool (l.all q)) ∧ Below W.heap.size W w' := by
  have hbx := below_box W (.cells #[.func (.func 38) #[] #[]] 61)
  have HI := Lib.hid (containsN_any q W l H W.heap.size _ hbx (box_cell W #[.func (.func 38) #[] #[]] 61 0 _ rfl) v (hS.keep hbx))
  have HBX := Lib.hid hbx
  obtain ⟨p, c, rfl⟩ := hS.form
  clear H hS hbx
  go_enter Tryz.func50, Tryz.ntmps50
  go_wp2_with fail
  refine HI.out.mono ?_
  rintro e w2 ⟨rfl, hb⟩
  go_wp2_with fail
  go_ret
  exact ⟨rfl, HBX.out.trans (hb.mono HBX.out.size)⟩
end Go.Proofs.YtlgfickhkejdjaaGreatDoor

namespace Go.Proofs.YtlgfickhkejdjaaGreatDoor
open Go.RowKit

/-- the value reads as the element -/
def ReadM (W : World) (x : Tr.M) (a1 a2 : Value) : Prop := x.name.size ≤ maxLen ∧ SlStr W a1 x.params ∧ SlS W a2 x.body
theorem ReadM.keep {w w' : World} {x : Tr.M} {a1 a2 : Value} (h : ReadM w x a1 a2) (hb : Below w.heap.size w w') : ReadM w' x a1 a2 := ⟨h.1, h.2.1.keep hb, h.2.2.keep hb⟩
/-- the function that is handed in says q of each element of l, in every world behind w -/
def HoldsM (w : World) (q : Tr.M → Bool) (l : List Tr.M) : Prop :=
  ∀ (W : World) (j : Nat) (x : Tr.M) (a1 a2 : Value), Below w.heap.size w W → l[j]? = some x → ReadM W x a1 a2 → Calls Tryz.prog 49 #[methV x a1 a2] W fun e w' => e = .returned (.bool (q x)) ∧ Below W.heap.size W w'

set_option maxRecDepth 100000 in
set_option maxHeartbeats 2000000 in
theorem all1M_any (q : Tr.M → Bool) (w0 : World) (l : List Tr.M) (H : HoldsM w0 q l) (B : Nat) (W : World) (hW : Below w0.heap.size w0 W) (hB : W.cell? ⟨B, 0, none⟩ = some (.func (.func 49) #[] #[]))
    (j : Nat) (x : Tr.M) (a1 a2 : Value) (hx : l[j]? = some x) (h : ReadM W x a1 a2) :
    Calls Tryz.prog 90 #[methV x a1 a2, .pointer (some ⟨B, 0, none⟩)] W fun e w' => e = .returned (.bool (!q x)) ∧ Below W.heap.size W w' := by
  have HR := Lib.hid h
  obtain ⟨pa, ca, rfl⟩ := h.2.1.form
  obtain ⟨pb, cb, rfl, _⟩ := h.2.2.form
  obtain ⟨AN, hAN⟩ : ∃ N, x.params.length = N := ⟨_, rfl⟩
  obtain ⟨BN, hBN⟩ : ∃ N, x.body.length = N := ⟨_, rfl⟩
  rw [hAN, hBN]
  rw [hAN, hBN] at HR
  unfold methV
  have hbx := below_box W (.cells #[.string x.name, .slice pa AN ca, .slice pb BN cb] 49)
  have hcall := H _ j x _ _ (below_next hW hbx) hx (HR.out.keep hbx)
  unfold methV at hcall
  have HC := Lib.hid hcall
  have HBX := Lib.hid hbx
  have hB' := cell_keep' hbx hB
  clear h hcall hbx H
  go_enter Tryz.func90, Tryz.ntmps90
  go_wp2_with fail
  refine HC.out.mono ?_
  rintro e w2 ⟨rfl, hb2⟩
  go_wp2_with fail
  go_ret
  exact ⟨rfl, HBX.out.trans (hb2.mono HBX.out.size)⟩

set_option maxRecDepth 100000 in
set_option maxHeartbeats 2000000 in
theorem indexM_any (q : Tr.M → Bool) (w0 : World) (l : List Tr.M) (H : HoldsM w0 q l) (B : Nat) (W : World) (hW : Below w0.heap.size w0 W) (hB : W.cell? ⟨B, 0, none⟩ = some (.func (.func 49) #[] #[])) (v : Value) (hS : SlM W v l) :
    Calls Tryz.prog 122 #[v, .func (.func 90) #[] #[.pointer (some ⟨B, 0, none⟩)]] W (IdxPost (!l.all q) W) := by
  obtain ⟨p, c, rfl⟩ := hS.form
  have hll := hS.len
  unfold maxLen at hll
  obtain ⟨N, hN⟩ : ∃ N, l.length = N := ⟨_, rfl⟩
  rw [hN] at hS hll ⊢
  have HS := Lib.hid hS
  have HN := Lib.hid hN
  have HH := Lib.hid H
  have HW := Lib.hid hW
  clear hS hN H hW
  go_enter Tryz.func122, Tryz.ntmps122
  go_wp2
  go_loopw [8] (fun s8 wr => ∃ j : Nat, s8 = .int .i64 j ∧ j ≤ N ∧ (∀ t x, t < j → l[t]? = some x → q x = true) ∧ Below W.heap.size W wr) (fun s8 _ => N - (intOf s8).toNat)
  case atStart => exact ⟨0, rfl, Nat.zero_le _, fun t x ht => by omega, Below.refl _ _⟩
  case round =>
    obtain ⟨j, rfl, hj, hall, hbr⟩ := hrel
    have HA := Lib.hid hall
    have HBR := Lib.hid hbr
    have HB1 := Lib.hid (cell_keep' hbr hB)
    clear hall
    by_cases hlt : j < N
    · obtain ⟨x, hx⟩ : ∃ x, l[j]? = some x := ⟨_, List.getElem?_eq_getElem (by rw [HN.out]; exact hlt)⟩
      obtain ⟨b, oo, a1, a2, rfl, _, hc, hnm, hsp, hsb⟩ := (HS.out.keep hbr).get hx
      obtain ⟨x0, x1, x2⟩ := hc
      have hr : ReadM wr x a1 a2 := ⟨hnm, hsp, hsb⟩
      have hcall := all1M_any q w0 l HH.out B wr (below_next HW.out HBR.out) HB1.out j x _ _ hx hr
      unfold methV at hcall
      have HX := Lib.hid hx
      clear hx hr hbr hnm hsp hsb
      cases hv : q x
      · rw [hv] at hcall
        have HCL := Lib.hid hcall
        have hf := Lib.hid (all_no HX.out hv)
        clear hcall hv
        go_wp2_with fail
        refine HCL.out.mono ?_
        rintro e w2 ⟨rfl, hb2⟩
        go_wp2_with fail
        go_ret
        exact ⟨(j : Int), rfl, by rw [hf.out]; simp, below_next HBR.out hb2⟩
      · rw [hv] at hcall
        have HCL := Lib.hid hcall
        have HV := Lib.hid hv
        clear hcall hv
        go_wp2_with fail
        refine HCL.out.mono ?_
        rintro e w2 ⟨rfl, hb2⟩
        go_wp2_with fail
        go_roundw
        case rel =>
          refine ⟨j + 1, by go_num, by omega, fun t y ht hty => ?_, below_next HBR.out hb2⟩
          by_cases e : t = j
          · subst e; rw [HX.out] at hty; cases hty; exact HV.out
          · exact HA.out t y (by omega) hty
        case measure => simp [intOf]; omega
    · have hf := Lib.hid (all_get HN.out (p := q) (fun t x ht => HA.out t x (by omega)))
      clear hbr
      go_wp2_with fail
      go_ret
      exact ⟨-1, rfl, by rw [hf.out]; simp, HBR.out⟩

set_option maxHeartbeats 1000000 in
theorem containsM_any (q : Tr.M → Bool) (w0 : World) (l : List Tr.M) (H : HoldsM w0 q l) (B : Nat) (W : World) (hW : Below w0.heap.size w0 W) (hB : W.cell? ⟨B, 0, none⟩ = some (.func (.func 49) #[] #[])) (v : Value) (hS : SlM W v l) :
    Calls Tryz.prog 89 #[v, .func (.func 90) #[] #[.pointer (some ⟨B, 0, none⟩)]] W fun e w' => e = .returned (.bool (!l.all q)) ∧ Below W.heap.size W w' := by
  have HI := Lib.hid (indexM_any q w0 l H B W hW hB v hS)
  obtain ⟨p, c, rfl⟩ := hS.form
  clear H hB hS hW
  go_enter Tryz.func89, Tryz.ntmps89
  go_wp2_with fail
  refine HI.out.mono ?_
  rintro e w2 ⟨i, rfl, hi, hb⟩
  have HII := Lib.hid hi
  clear hi
  go_wp2_with fail
  go_ret
  exact ⟨ret_bool HII.out, hb⟩

set_option maxHeartbeats 1000000 in
theorem allM_any (q : Tr.M → Bool) (l : List Tr.M) (W : World) (H : HoldsM W q l) (v : Value) (hS : SlM W v l) :
    Calls Tryz.prog 55 #[v, .func (.func 49) #[] #[]] W fun e w' => e = .returned (.bool (l.all q)) ∧ Below W.heap.size W w' := by
  have hbx := below_box W (.cells #[.func (.func 49) #[] #[]] 78)
  have HI := Lib.hid (containsM_any q W l H W.heap.size _ hbx (box_cell W #[.func (.func 49) #[] #[]] 78 0 _ rfl) v (hS.keep hbx))
  have HBX := Lib.hid hbx
  obtain ⟨p, c, rfl⟩ := hS.form
  clear H hS hbx
  go_enter Tryz.func55, Tryz.ntmps55
  go_wp2_with fail
  refine HI.out.mono ?_
  rintro e w2 ⟨rfl, hb⟩
  go_wp2_with fail
  go_ret
  exact ⟨rfl, HBX.out.trans (hb.mono HBX.out.size)⟩
end Go.Proofs.YtlgfickhkejdjaaGreatDoor

namespace Go.Proofs.YtlgfickhkejdjaaGreatDoor
open Go.RowKit

/-- the value reads as the element -/
def ReadC (W : World) (x : Tr.C) (a1 a2 : Value) : Prop := x.name.size ≤ maxLen ∧ SlStr W a1 x.fields ∧ SlM W a2 x.methods
theorem ReadC.keep {w w' : World} {x : Tr.C} {a1 a2 : Value} (h : ReadC w x a1 a2) (hb : Below w.heap.size w w') : ReadC w' x a1 a2 := ⟨h.1, h.2.1.keep hb, h.2.2.keep hb⟩
/-- the function that is handed in says q of each element of l, in every world behind w -/
def HoldsC (VB : Nat) (w : World) (q : Tr.C → Bool) (l : List Tr.C) : Prop :=
  ∀ (W : World) (j : Nat) (x : Tr.C) (a1 a2 : Value), Below w.heap.size w W → l[j]? = some x → ReadC W x a1 a2 → Calls Tryz.prog 54 #[classV x a1 a2, .pointer (some ⟨VB, 0, none⟩)] W fun e w' => e = .returned (.bool (q x)) ∧ Below W.heap.size W w'

set_option maxRecDepth 100000 in
set_option maxHeartbeats 2000000 in
theorem all1C_any (VB : Nat) (q : Tr.C → Bool) (w0 : World) (l : List Tr.C) (H : HoldsC VB w0 q l) (B : Nat) (W : World) (hW : Below w0.heap.size w0 W) (hB : W.cell? ⟨B, 0, none⟩ = some (.func (.func 54) #[] #[.pointer (some ⟨VB, 0, none⟩)]))
    (j : Nat) (x : Tr.C) (a1 a2 : Value) (hx : l[j]? = some x) (h : ReadC W x a1 a2) :
    Calls Tryz.prog 88 #[classV x a1 a2, .pointer (some ⟨B, 0, none⟩)] W fun e w' => e = .returned (.bool (!q x)) ∧ Below W.heap.size W w' := by
  have HR := Lib.hid h
  obtain ⟨pa, ca, rfl⟩ := h.2.1.form
  obtain ⟨pb, cb, rfl⟩ := h.2.2.form
  obtain ⟨AN, hAN⟩ : ∃ N, x.fields.length = N := ⟨_, rfl⟩
  obtain ⟨BN, hBN⟩ : ∃ N, x.methods.length = N := ⟨_, rfl⟩
  rw [hAN, hBN]
  rw [hAN, hBN] at HR
  unfold classV
  have hbx := below_box W (.cells #[.string x.name, .bool x.actor, .slice pa AN ca, .slice pb BN cb] 52)
  have hcall := H _ j x _ _ (below_next hW hbx) hx (HR.out.keep hbx)
  unfold classV at hcall
  have HC := Lib.hid hcall
  have HBX := Lib.hid hbx
  have hB' := cell_keep' hbx hB
  clear h hcall hbx H
  go_enter Tryz.func88, Tryz.ntmps88
  go_wp2_with fail
  refine HC.out.mono ?_
  rintro e w2 ⟨rfl, hb2⟩
  go_wp2_with fail
  go_ret
  exact ⟨rfl, HBX.out.trans (hb2.mono HBX.out.size)⟩

set_option maxRecDepth 100000 in
set_option maxHeartbeats 2000000 in
theorem indexC_any (VB : Nat) (q : Tr.C → Bool) (w0 : World) (l : List Tr.C) (H : HoldsC VB w0 q l) (B : Nat) (W : World) (hW : Below w0.heap.size w0 W) (hB : W.cell? ⟨B, 0, none⟩ = some (.func (.func 54) #[] #[.pointer (some ⟨VB, 0, none⟩)])) (v : Value) (hS : SlC W v l) :
    Calls Tryz.prog 121 #[v, .func (.func 88) #[] #[.pointer (some ⟨B, 0, none⟩)]] W (IdxPost (!l.all q) W) := by
  obtain ⟨p, c, rfl⟩ := hS.form
  have hll := hS.len
  unfold maxLen at hll
  obtain ⟨N, hN⟩ : ∃ N, l.length = N := ⟨_, rfl⟩
  rw [hN] at hS hll ⊢
  have HS := Lib.hid hS
  have HN := Lib.hid hN
  have HH := Lib.hid H
  have HW := Lib.hid hW
  clear hS hN H hW
  go_enter Tryz.func121, Tryz.ntmps121
  go_wp2
  go_loopw [8] (fun s8 wr => ∃ j : Nat, s8 = .int .i64 j ∧ j ≤ N ∧ (∀ t x, t < j → l[t]? = some x → q x = true) ∧ Below W.heap.size W wr) (fun s8 _ => N - (intOf s8).toNat)
  case atStart => exact ⟨0, rfl, Nat.zero_le _, fun t x ht => by omega, Below.refl _ _⟩
  case round =>
    obtain ⟨j, rfl, hj, hall, hbr⟩ := hrel
    have HA := Lib.hid hall
    have HBR := Lib.hid hbr
    have HB1 := Lib.hid (cell_keep' hbr hB)
    clear hall
    by_cases hlt : j < N
    · obtain ⟨x, hx⟩ : ∃ x, l[j]? = some x := ⟨_, List.getElem?_eq_getElem (by rw [HN.out]; exact hlt)⟩
      obtain ⟨b, oo, a1, a2, rfl, _, hc, hnm, hsp, hsb⟩ := (HS.out.keep hbr).get hx
      obtain ⟨x0, x1, x2, x3⟩ := hc
      have hr : ReadC wr x a1 a2 := ⟨hnm, hsp, hsb⟩
      have hcall := all1C_any VB q w0 l HH.out B wr (below_next HW.out HBR.out) HB1.out j x _ _ hx hr
      unfold classV at hcall
      have HX := Lib.hid hx
      clear hx hr hbr hnm hsp hsb
      cases hv : q x
      · rw [hv] at hcall
        have HCL := Lib.hid hcall
        have hf := Lib.hid (all_no HX.out hv)
        clear hcall hv
        go_wp2_with fail
        refine HCL.out.mono ?_
        rintro e w2 ⟨rfl, hb2⟩
        go_wp2_with fail
        go_ret
        exact ⟨(j : Int), rfl, by rw [hf.out]; simp, below_next HBR.out hb2⟩
      · rw [hv] at hcall
        have HCL := Lib.hid hcall
        have HV := Lib.hid hv
        clear hcall hv
        go_wp2_with fail
        refine HCL.out.mono ?_
        rintro e w2 ⟨rfl, hb2⟩
        go_wp2_with fail
        go_roundw
        case rel =>
          refine ⟨j + 1, by go_num, by omega, fun t y ht hty => ?_, below_next HBR.out hb2⟩
          by_cases e : t = j
          · subst e; rw [HX.out] at hty; cases hty; exact HV.out
          · exact HA.out t y (by omega) hty
        case measure => simp [intOf]; omega
    · have hf := Lib.hid (all_get HN.out (p := q) (fun t x ht => HA.out t x (by omega)))
      clear hbr
      go_wp2_with fail
      go_ret
      exact ⟨-1, rfl, by rw [hf.out]; simp, HBR.out⟩

set_option maxHeartbeats 1000000 in
theorem containsC_any (VB : Nat) (q : Tr.C → Bool) (w0 : World) (l : List Tr.C) (H : HoldsC VB w0 q l) (B : Nat) (W : World) (hW : Below w0.heap.size w0 W) (hB : W.cell? ⟨B, 0, none⟩ = some (.func (.func 54) #[] #[.pointer (some ⟨VB, 0, none⟩)])) (v : Value) (hS : SlC W v l) :
    Calls Tryz.prog 87 #[v, .func (.func 88) #[] #[.pointer (some ⟨B, 0, none⟩)]] W fun e w' => e = .returned (.bool (!l.all q)) ∧ Below W.heap.size W w' := by
  have HI := Lib.hid (indexC_any VB q w0 l H B W hW hB v hS)
  obtain ⟨p, c, rfl⟩ := hS.form
  clear H hB hS hW
  go_enter Tryz.func87, Tryz.ntmps87
  go_wp2_with fail
  refine HI.out.mono ?_
  rintro e w2 ⟨i, rfl, hi, hb⟩
  have HII := Lib.hid hi
  clear hi
  go_wp2_with fail
  go_ret
  exact ⟨ret_bool HII.out, hb⟩

set_option maxHeartbeats 1000000 in
theorem allC_any (VB : Nat) (q : Tr.C → Bool) (l : List Tr.C) (W : World) (H : HoldsC VB W q l) (v : Value) (hS : SlC W v l) :
    Calls Tryz.prog 53 #[v, .func (.func 54) #[] #[.pointer (some ⟨VB, 0, none⟩)]] W fun e w' => e = .returned (.bool (l.all q)) ∧ Below W.heap.size W w' := by
  have hbx := below_box W (.cells #[.func (.func 54) #[] #[.pointer (some ⟨VB, 0, none⟩)]] 81)
  have HI := Lib.hid (containsC_any VB q W l H W.heap.size _ hbx (box_cell W #[.func (.func 54) #[] #[.pointer (some ⟨VB, 0, none⟩)]] 81 0 _ rfl) v (hS.keep hbx))
  have HBX := Lib.hid hbx
  obtain ⟨p, c, rfl⟩ := hS.form
  clear H hS hbx
  go_enter Tryz.func53, Tryz.ntmps53
  go_wp2_with fail
  refine HI.out.mono ?_
  rintro e w2 ⟨rfl, hb⟩
  go_wp2_with fail
  go_ret
  exact ⟨rfl, HBX.out.trans (hb.mono HBX.out.size)⟩
end Go.Proofs.YtlgfickhkejdjaaGreatDoor
