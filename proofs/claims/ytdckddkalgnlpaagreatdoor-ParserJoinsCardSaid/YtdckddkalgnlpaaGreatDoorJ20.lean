/-
  Several texts in one: TrAllM, TrAllC, SyExpr, SyClassB, SySize, SySizeS, SySizeP, PaCount.
-/
import Derived.Test.YtdckddkalgnlpaaGreatDoorJ6
import Derived.Test.YtdckddkalgnlpaaGreatDoorJ19
import Derived.Laws.EntriesVeiled
import Derived.Maps.OwnSet
import Derived.Maps.StringElems
import Derived.Test.YtdckddkalgnlpaaGreatDoorJ7
namespace Go.Proofs.YtdckddkalgnlpaaGreatDoor
open Go.RowKit
/-- the value reads as the element -/
def ReadM (W : World) (x : Tr.M) (a1 a2 : Value) : Prop := x.name.size ≤ maxLen ∧ SlStr W a1 x.params ∧ SlS W a2 x.body
theorem ReadM.keep {w w' : World} {x : Tr.M} {a1 a2 : Value} (h : ReadM w x a1 a2) (hb : Below w.heap.size w w') : ReadM w' x a1 a2 := ⟨h.1, h.2.1.keep hb, h.2.2.keep hb⟩
end Go.Proofs.YtdckddkalgnlpaaGreatDoor
namespace Go.Proofs.YtdckddkalgnlpaaGreatDoor
open Go.RowKit
/-- the value reads as the element -/
def ReadC (W : World) (x : Tr.C) (a1 a2 : Value) : Prop := x.name.size ≤ maxLen ∧ SlStr W a1 x.fields ∧ SlM W a2 x.methods
theorem ReadC.keep {w w' : World} {x : Tr.C} {a1 a2 : Value} (h : ReadC w x a1 a2) (hb : Below w.heap.size w w') : ReadC w' x a1 a2 := ⟨h.1, h.2.1.keep hb, h.2.2.keep hb⟩
end Go.Proofs.YtdckddkalgnlpaaGreatDoor
namespace Go.Proofs.YtdckddkalgnlpaaGreatDoor
open Go.RowKit
/-- what chapter 38's functions read of the package-level variables -/
structure SyEnv (w : World) : Prop where
  syn : SynEnv w
  pr : PrEnv w
theorem PrEnv.keep {w w' : World} (h : PrEnv w) (hb : Below w.heap.size w w') : PrEnv w' := ⟨fun o ho => ⟨cell_keep' hb (h.ops o ho).1, cell_keep' hb (h.ops o ho).2⟩, tab_keep h.tab hb⟩
theorem SyEnv.keep {w w' : World} (h : SyEnv w) (hb : Below w.heap.size w w') : SyEnv w' := ⟨h.syn.keep hb, h.pr.keep hb⟩
end Go.Proofs.YtdckddkalgnlpaaGreatDoor
namespace Go.Proofs.YtdckddkalgnlpaaGreatDoor
open Go.RowKit Go.Maps
theorem SlStr.get {w : World} {p : Option Addr} {n c : Nat} {l : List ByteArray} (h : SlStr w (.slice p n c) l) {j : Nat} {s : ByteArray} (hj : l[j]? = some s) :
    ∃ b o, p = some ⟨b, o, none⟩ ∧ b < w.heap.size ∧ w.cell? ⟨b, o + j, none⟩ = some (.string s) := by
  obtain ⟨p', c', e, _, _, hx⟩ := h
  cases e
  obtain ⟨_, b, o, h2, h3, h4⟩ := hx j s hj
  exact ⟨b, o, h2, h3, h4⟩
theorem CellsM.keep {w w' : World} {b o : Nat} {m : Tr.M} {x y : Value} (h : CellsM w b o m x y) (hb : Below w.heap.size w w') : CellsM w' b o m x y :=
  ⟨cell_keep' hb h.1, cell_keep' hb h.2.1, cell_keep' hb h.2.2⟩
end Go.Proofs.YtdckddkalgnlpaaGreatDoor
namespace Go.Proofs.YtdckddkalgnlpaaGreatDoor
open Go.RowKit Go.Maps
theorem sum_take {α : Type} (g : α → Nat) {ls : List α} {j : Nat} {s : α} (h : ls[j]? = some s) : ((ls.take (j + 1)).map g).sum = ((ls.take j).map g).sum + g s := by
  rw [List.take_add_one, h]; simp
theorem sum_le {α : Type} (g : α → Nat) (ls : List α) (j : Nat) : ((ls.take j).map g).sum ≤ (ls.map g).sum := by
  have h : (ls.map g).sum = ((ls.take j).map g).sum + ((ls.drop j).map g).sum := by rw [← List.sum_append, ← List.map_append, List.take_append_drop]
  rw [h]; omega
namespace Sy
def argsZ (e : Tr.E) : Nat := sizeEs e.args
theorem sizeE_args (e : Tr.E) : sizeE e = 1 + argsZ e := by cases e; rw [sizeE]; rfl
theorem sizeEs_sum : ∀ ls : List Tr.E, sizeEs ls = ls.length + (ls.map argsZ).sum
  | [] => by rw [sizeEs]; rfl
  | e :: r => by rw [sizeEs, sizeEs_sum r, sizeE_args, List.length_cons, List.map_cons, List.sum_cons]; omega
theorem sizeEs_sumE : ∀ ls : List Tr.E, sizeEs ls = (ls.map sizeE).sum
  | [] => by rw [sizeEs]; rfl
  | e :: r => by rw [sizeEs, sizeEs_sumE r, List.map_cons, List.sum_cons]
end Sy
theorem E_deep_eq (x : Tr.E) : x.deep = 1 + Tr.E.deep.deeps x.args := by cases x; rw [Tr.E.deep]; rfl
set_option maxRecDepth 100000 in
set_option maxHeartbeats 4000000 in
theorem exprSize_any : ∀ (d : Nat) (ls : List Tr.E) (p : Option Addr) (N c : Nat) (w : World), Tr.E.deep.deeps ls < d → ls.length = N → SlE w (.slice p N c) ls → Sy.sizeEs ls ≤ 1000000000 →
    Calls Tryz.prog 112 #[.slice p N c] w fun r w' => r = .returned (.int .i64 (Sy.sizeEs ls : Nat)) ∧ Below w.heap.size w w' := by
  intro d
  induction d with
  | zero => intro ls p N c w hd; omega
  | succ d ih =>
    intro ls p N c w hd hN hS hz
    have hn6 : N ≤ 9223372036854775807 := by
      have := hS.len
      rw [hN] at this
      unfold maxLen at this
      exact this
    have hsum := Sy.sizeEs_sum ls
    rw [hN] at hsum
    have HS := Lib.hid hS
    have HN := Lib.hid hN
    have HD := Lib.hid hd
    have HIH := Lib.hid ih
    have HZ := Lib.hid hz
    have HSUM := Lib.hid hsum
    clear ih hS hN hd hz hsum
    go_enter Tryz.func112, Tryz.ntmps112
    go_wp2_with fail
    go_loopg [3, 5, 10] N (fun g s3 s5 s10 wr => ∃ (j M : Nat), s10 = .int .i64 j ∧ j ≤ N ∧ g = N - j ∧ s3 = .int .i64 M ∧ M = N + ((ls.take j).map Sy.argsZ).sum ∧ Hid (Below w.heap.size w wr))
    case atStart => exact ⟨0, N, rfl, Nat.zero_le _, rfl, rfl, rfl, Below.refl _ _⟩
    case round =>
      obtain ⟨j, M, rfl, hj, rfl, rfl, hM, HB⟩ := hrel
      by_cases hlt : j < N
      · obtain ⟨x, hx⟩ : ∃ x, ls[j]? = some x := ⟨_, List.getElem?_eq_getElem (by rw [HN.out]; exact hlt)⟩
        obtain ⟨b', o', aa, rfl, _, hc, hbd, hsl⟩ := HS.out.get hx
        obtain ⟨pa, ca, rfl, _⟩ := hsl.form
        obtain ⟨AN, hAN⟩ : ∃ q, x.args.length = q := ⟨_, rfl⟩
        rw [hAN] at hsl hc
        obtain ⟨y0, y1, y2, y3, y4, y5⟩ := hc.keep HB.out
        have htk := sum_take Sy.argsZ hx
        have hle := sum_le Sy.argsZ ls (j + 1)
        rw [htk] at hle
        obtain ⟨Z, hZ⟩ : ∃ q, Sy.argsZ x = q := ⟨_, rfl⟩
        rw [hZ] at htk hle
        have hbx := HB.out.alloc HB.out.size (.cells #[.int .i64 x.kind, .int .i64 x.op, .int .i64 x.int, .string x.name, .bool x.at_, .slice pa AN ca] 33)
        obtain ⟨w4, hw4⟩ : ∃ q, q = wr.alloc (.cells #[.int .i64 x.kind, .int .i64 x.op, .int .i64 x.int, .string x.name, .bool x.at_, .slice pa AN ca] 33) := ⟨_, rfl⟩
        rw [← hw4] at hbx
        have hzz := HSUM.out
        have hzl := HZ.out
        have hdx := Tr.E.deeps_get ls j x hx
        have hde := E_deep_eq x
        have hcall := HIH.out x.args pa AN ca w4 (by have := HD.out; omega) hAN (hsl.keep hbx) (by show Sy.argsZ x ≤ _; rw [hZ]; omega)
        rw [show Sy.sizeEs x.args = Z from hZ] at hcall
        have HCALL := Lib.hid hcall
        have HBX := Lib.hid hbx
        have HW4 := Lib.hid hw4
        have HTK := Lib.hid htk
        have b3 : (j : Int) < (N : Int) := by omega
        have bw : IntKind.i64.wrap ((M : Int) + (Z : Int)) = (M : Int) + (Z : Int) := IntWalk.i64_in _ (by omega)
        have HM := Lib.hid hM
        have hl0 := cell_lt' y0
        clear hx hc hbd hsl hAN htk hle hbx hw4 hzz hzl hdx hde hcall hZ hM
        go_wp2_with fail
        rw [← HW4.out]
        refine HCALL.out.mono ?_
        rintro e' w5 ⟨rfl, hb5⟩
        have HB5 := Lib.hid (HBX.out.trans (hb5.mono HBX.out.size))
        clear hb5 y0 y1 y2 y3 y4 y5 hl0 HW4
        go_wp2_with fail
        go_roundg (N - (j + 1))
        case measure => omega
        case rel => exact ⟨j + 1, M + Z, by go_num, by omega, rfl, by go_num, by have h1 := HTK.out; have h2 := HM.out; omega, HB5⟩
      · obtain rfl : j = N := by omega
        have hfull : ls.take j = ls := List.take_of_length_le (by rw [HN.out]; exact Nat.le_refl _)
        rw [hfull, ← HSUM.out] at hM
        subst hM
        clear hfull
        go_wp2_with fail
        go_ret
        exact ⟨rfl, HB.out⟩
end Go.Proofs.YtdckddkalgnlpaaGreatDoor
namespace Go.Proofs.YtdckddkalgnlpaaGreatDoor
open Go.RowKit Go.Maps
namespace Sy
def restZ (s : Tr.S) : Nat := sizeEs s.exprs + sizeSs s.body + sizeSs s.els
theorem sizeS_rest (s : Tr.S) : sizeS s = 1 + restZ s := by
  obtain ⟨k, nm, x, b, l⟩ := s
  rw [sizeS]
  show _ = 1 + (sizeEs x + sizeSs b + sizeSs l)
  omega
theorem sizeSs_sum : ∀ ls : List Tr.S, sizeSs ls = ls.length + (ls.map restZ).sum
  | [] => by rw [sizeSs]; rfl
  | e :: r => by rw [sizeSs, sizeSs_sum r, sizeS_rest, List.length_cons, List.map_cons, List.sum_cons]; omega
end Sy
theorem S_deep_eq (x : Tr.S) : x.deep = 1 + max (Tr.S.deep.deeps x.body) (Tr.S.deep.deeps x.els) := by cases x; rw [Tr.S.deep]; rfl
theorem bl_of {w0 w : World} {a b c : Prop} (h : a ∧ b ∧ c ∧ Hid (Below w0.heap.size w0 w)) : Below w0.heap.size w0 w := h.2.2.2.out
theorem sz_keep {w0 w w' : World} {B : Nat} {x y z : Value} (h : w.cell? ⟨B, 2, none⟩ = some x ∧ w.cell? ⟨B, 3, none⟩ = some y ∧ w.cell? ⟨B, 4, none⟩ = some z ∧ Hid (Below w0.heap.size w0 w)) (hb : Below w.heap.size w w') :
    w'.cell? ⟨B, 2, none⟩ = some x ∧ w'.cell? ⟨B, 3, none⟩ = some y ∧ w'.cell? ⟨B, 4, none⟩ = some z ∧ Hid (Below w0.heap.size w0 w') :=
  ⟨cell_keep' hb h.1, cell_keep' hb h.2.1, cell_keep' hb h.2.2.1, h.2.2.2.out.trans (hb.mono h.2.2.2.out.size)⟩
set_option maxRecDepth 100000 in
set_option maxHeartbeats 8000000 in
theorem stmtSize_any : ∀ (d : Nat) (ls : List Tr.S) (p : Option Addr) (N c : Nat) (w : World), Tr.S.deep.deeps ls < d → ls.length = N → SlS w (.slice p N c) ls → Sy.sizeSs ls ≤ 1000000000 →
    Calls Tryz.prog 61 #[.slice p N c] w fun r w' => r = .returned (.int .i64 (Sy.sizeSs ls : Nat)) ∧ Below w.heap.size w w' := by
  intro d
  induction d with
  | zero => intro ls p N c w hd; omega
  | succ d ih =>
    intro ls p N c w hd hN hS hz
    have hn6 : N ≤ 9223372036854775807 := by
      have := hS.len
      rw [hN] at this
      unfold maxLen at this
      exact this
    have hsum := Sy.sizeSs_sum ls
    rw [hN] at hsum
    have HS := Lib.hid hS
    have HN := Lib.hid hN
    have HD := Lib.hid hd
    have HIH := Lib.hid ih
    have HZ := Lib.hid hz
    have HSUM := Lib.hid hsum
    clear ih hS hN hd hz hsum
    go_enter Tryz.func61, Tryz.ntmps61
    go_wp2_with fail
    go_loopg [3, 5, 10] N (fun g s3 s5 s10 wr => ∃ (j M : Nat), s10 = .int .i64 j ∧ j ≤ N ∧ g = N - j ∧ s3 = .int .i64 M ∧ M = N + ((ls.take j).map Sy.restZ).sum ∧ Hid (Below w.heap.size w wr))
    case atStart => exact ⟨0, N, rfl, Nat.zero_le _, rfl, rfl, rfl, Below.refl _ _⟩
    case round =>
      obtain ⟨j, M, rfl, hj, rfl, rfl, hM, HB⟩ := hrel
      by_cases hlt : j < N
      · obtain ⟨s, hx⟩ : ∃ x, ls[j]? = some x := ⟨_, List.getElem?_eq_getElem (by rw [HN.out]; exact hlt)⟩
        obtain ⟨b', o', vx, vy, vz, rfl, _, hc, hbd, hsx, hsy, hsz⟩ := HS.out.get hx
        obtain ⟨px, cx, rfl, _⟩ := hsx.form
        obtain ⟨py, cy, rfl, _⟩ := hsy.form
        obtain ⟨pz, cz, rfl, _⟩ := hsz.form
        obtain ⟨XN, hXN⟩ : ∃ q, s.exprs.length = q := ⟨_, rfl⟩
        obtain ⟨YN, hYN⟩ : ∃ q, s.body.length = q := ⟨_, rfl⟩
        obtain ⟨ZN, hZN⟩ : ∃ q, s.els.length = q := ⟨_, rfl⟩
        rw [hXN] at hsx hc
        rw [hYN] at hsy hc
        rw [hZN] at hsz hc
        obtain ⟨y0, y1, y2, y3, y4⟩ := hc.keep HB.out
        have htk := sum_take Sy.restZ hx
        have hle := sum_le Sy.restZ ls (j + 1)
        rw [htk] at hle
        obtain ⟨X, hX⟩ : ∃ q, Sy.sizeEs s.exprs = q := ⟨_, rfl⟩
        obtain ⟨Y, hY⟩ : ∃ q, Sy.sizeSs s.body = q := ⟨_, rfl⟩
        obtain ⟨Z, hZ⟩ : ∃ q, Sy.sizeSs s.els = q := ⟨_, rfl⟩
        have hr : Sy.restZ s = X + Y + Z := by unfold Sy.restZ; rw [hX, hY, hZ]
        rw [hr] at htk hle
        have hbx := HB.out.alloc HB.out.size (.cells #[.int .i64 s.kind, .string s.name, .slice px XN cx, .slice py YN cy, .slice pz ZN cz] 94)
        have hcv := (MapKept.heap_alloc wr (.cells #[.int .i64 s.kind, .string s.name, .slice px XN cx, .slice py YN cy, .slice pz ZN cz] 94)).1
        obtain ⟨BX, hBX⟩ : ∃ q, wr.heap.size = q := ⟨_, rfl⟩
        rw [hBX] at hcv
        have hzz := HSUM.out
        have hzl := HZ.out
        have hdx := Tr.S.deeps_get ls j s hx
        have hde := S_deep_eq s
        have hd2 := HD.out
        have KX : Hid (∀ W, Below w.heap.size w W → Calls Tryz.prog 112 #[.slice px XN cx] W fun r w' => r = .returned (.int .i64 X) ∧ Below W.heap.size W w') := by
          intro W hb
          have := exprSize_any _ s.exprs px XN cx W (Nat.lt_succ_self _) hXN (hsx.keep hb) (by rw [hX]; omega)
          rw [hX] at this
          exact this
        have KY : Hid (∀ W, Below w.heap.size w W → Calls Tryz.prog 61 #[.slice py YN cy] W fun r w' => r = .returned (.int .i64 Y) ∧ Below W.heap.size W w') := by
          intro W hb
          have := HIH.out s.body py YN cy W (by omega) hYN (hsy.keep hb) (by rw [hY]; omega)
          rw [hY] at this
          exact this
        have KZ : Hid (∀ W, Below w.heap.size w W → Calls Tryz.prog 61 #[.slice pz ZN cz] W fun r w' => r = .returned (.int .i64 Z) ∧ Below W.heap.size W w') := by
          intro W hb
          have := HIH.out s.els pz ZN cz W (by omega) hZN (hsz.keep hb) (by rw [hZ]; omega)
          rw [hZ] at this
          exact this
        have HTK := Lib.hid htk
        have b3 : (j : Int) < (N : Int) := by omega
        have bw1 : IntKind.i64.wrap ((X : Int) + (Y : Int)) = (X : Int) + (Y : Int) := IntWalk.i64_in _ (by omega)
        have bw2 : IntKind.i64.wrap ((X : Int) + (Y : Int) + (Z : Int)) = (X : Int) + (Y : Int) + (Z : Int) := IntWalk.i64_in _ (by omega)
        have bw3 : IntKind.i64.wrap ((M : Int) + ((X : Int) + (Y : Int) + (Z : Int))) = (M : Int) + ((X : Int) + (Y : Int) + (Z : Int)) := IntWalk.i64_in _ (by omega)
        have HM := Lib.hid hM
        have hl0 := cell_lt' y0
        clear hx hc hbd hsx hsy hsz hXN hYN hZN htk hle hzz hzl hdx hde hd2 hX hY hZ hr hM
        go_upto_region 5 with fail
        obtain ⟨w4, hw4⟩ : ∃ q, q = wr.alloc (.cells #[.int .i64 s.kind, .string s.name, .slice px XN cx, .slice py YN cy, .slice pz ZN cz] 94) := ⟨_, rfl⟩
        rw [← hw4] at hbx hcv ⊢
        try rw [hBX]
        have z2 := cell_of_blkP hcv (j := 2) (u := .slice px XN cx) rfl
        have z3 := cell_of_blkP hcv (j := 3) (u := .slice py YN cy) rfl
        have z4 := cell_of_blkP hcv (j := 4) (u := .slice pz ZN cz) rfl
        have HB4 := Lib.hid hbx
        have HBD : Hid (Below w.heap.size w w4.drew) := hbx.drew
        clear hbx hcv hw4 y0 y1 y2 y3 y4 hl0 hBX
        go_region_held3 (fun w' => w'.cell? ⟨BX, 2, none⟩ = some (.slice px XN cx) ∧ w'.cell? ⟨BX, 3, none⟩ = some (.slice py YN cy) ∧ w'.cell? ⟨BX, 4, none⟩ = some (.slice pz ZN cz) ∧ Hid (Below w.heap.size w w')) (first | exact sz_keep (by assumption) hb | exact ⟨z2, z3, z4, HBD⟩ | go_keep) (first | (go_at_call 112; refine (KX.out _ (bl_of (by assumption))).mono ?_; rintro e w' ⟨rfl, hb⟩) | (go_at_call 61; (first | (with_reducible refine (KY.out _ (bl_of (by assumption))).mono ?_) | (with_reducible refine (KZ.out _ (bl_of (by assumption))).mono ?_)); rintro e w' ⟨rfl, hb⟩))
        go_wp2_with fail
        go_roundg (N - (j + 1))
        case measure => omega
        case rel =>
          refine ⟨j + 1, M + (X + Y + Z), by go_num, by omega, rfl, by go_num, by have h1 := HTK.out; have h2 := HM.out; omega, ?_⟩
          have h9 := bl_of (by assumption)
          exact Lib.hid h9
      · obtain rfl : j = N := by omega
        have hfull : ls.take j = ls := List.take_of_length_le (by rw [HN.out]; exact Nat.le_refl _)
        rw [hfull, ← HSUM.out] at hM
        subst hM
        clear hfull
        go_wp2_with fail
        go_ret
        exact ⟨rfl, HB.out⟩
end Go.Proofs.YtdckddkalgnlpaaGreatDoor
namespace Go.Proofs.YtdckddkalgnlpaaGreatDoor
open Go.RowKit Go.Maps
namespace Sy
def restM (m : Tr.M) : Nat := m.params.length + sizeSs m.body
def restC (c : Tr.C) : Nat := c.fields.length + c.methods.length + (c.methods.map restM).sum
theorem sizeMs_sum : ∀ ms : List Tr.M, (ms.map sizeM).sum = ms.length + (ms.map restM).sum
  | [] => rfl
  | m :: r => by
    rw [List.map_cons, List.map_cons, List.sum_cons, List.sum_cons, sizeMs_sum r, List.length_cons, sizeM, restM]
    omega
theorem sizeC_rest (c : Tr.C) : sizeC c = 1 + restC c := by rw [sizeC, restC, sizeMs_sum]; omega
theorem sizeP_sum : ∀ cs : List Tr.C, sizeP cs = cs.length + (cs.map restC).sum
  | [] => rfl
  | c :: r => by
    have h := sizeP_sum r
    unfold sizeP at h ⊢
    rw [List.map_cons, List.map_cons, List.sum_cons, List.sum_cons, h, List.length_cons, sizeC_rest]
    omega
end Sy
theorem bl2_of {w0 w : World} {a b : Prop} (h : a ∧ b ∧ Hid (Below w0.heap.size w0 w)) : Below w0.heap.size w0 w := h.2.2.out
theorem sz2_keep {w0 w w' : World} {B : Nat} {x y : Value} (h : w.cell? ⟨B, 1, none⟩ = some x ∧ w.cell? ⟨B, 2, none⟩ = some y ∧ Hid (Below w0.heap.size w0 w)) (hb : Below w.heap.size w w') :
    w'.cell? ⟨B, 1, none⟩ = some x ∧ w'.cell? ⟨B, 2, none⟩ = some y ∧ Hid (Below w0.heap.size w0 w') :=
  ⟨cell_keep' hb h.1, cell_keep' hb h.2.1, h.2.2.out.trans (hb.mono h.2.2.out.size)⟩
set_option maxRecDepth 100000 in
set_option maxHeartbeats 8000000 in
theorem size_any (v : Value) (cs : List Tr.C) (w : World) (hS : SlC w v cs) (hz : Sy.sizeP cs ≤ 1000000000) :
    Calls Tryz.prog 26 #[.agg #[v]] w fun r w' => r = .returned (.int .i64 (Sy.sizeP cs : Nat)) ∧ Below w.heap.size w w' := by
  obtain ⟨p, c, rfl⟩ := hS.form
  have hsum := Sy.sizeP_sum cs
  obtain ⟨N, hN⟩ : ∃ q, cs.length = q := ⟨_, rfl⟩
  rw [hN] at hS hsum ⊢
  have hn6 : N ≤ 1000000000 := by omega
  have hB := below_box w (.cells #[.slice p N c] 25)
  have hcv := (MapKept.heap_alloc w (.cells #[.slice p N c] 25)).1
  obtain ⟨w1, hw1⟩ : ∃ q, q = w.alloc (.cells #[.slice p N c] 25) := ⟨_, rfl⟩
  rw [← hw1] at hB hcv
  have HW1 := Lib.hid hw1
  have HB1 := Lib.hid hB
  have HS := Lib.hid hS
  have HN := Lib.hid hN
  have HZ := Lib.hid hz
  have HSUM := Lib.hid hsum
  have e0 := cell_of_blkP hcv (j := 0) (u := .slice p N c) rfl
  rw [hw1] at e0
  clear hS hN hz hsum hw1 hB hcv
  go_enter Tryz.func26, Tryz.ntmps26
  go_wp2_with fail
  rw [← HW1.out]
  clear e0 HW1
  go_loopg [3, 5, 7, 14] N (fun g s3 s5 s7 s14 wr => ∃ (j M : Nat), s14 = .int .i64 j ∧ j ≤ N ∧ g = N - j ∧ s3 = .int .i64 M ∧ M = N + ((cs.take j).map Sy.restC).sum ∧ Hid (Below w.heap.size w wr))
  case atStart => exact ⟨0, N, rfl, Nat.zero_le _, rfl, rfl, rfl, HB1⟩
  case round =>
    obtain ⟨j, M, rfl, hj, rfl, rfl, hM, HB⟩ := hrel
    by_cases hlt : j < N
    · obtain ⟨s, hs⟩ : ∃ s, cs[j]? = some s := ⟨_, List.getElem?_eq_getElem (by rw [HN.out]; exact hlt)⟩
      obtain ⟨b', o', vx, vy, rfl, _, hc, _, hfx, hmx⟩ := HS.out.get hs
      obtain ⟨fp, fc, rfl⟩ := hfx.form
      obtain ⟨mp, mc, rfl⟩ := hmx.form
      obtain ⟨FN, hFN⟩ : ∃ q, s.fields.length = q := ⟨_, rfl⟩
      obtain ⟨MN, hMN⟩ : ∃ q, s.methods.length = q := ⟨_, rfl⟩
      rw [hFN] at hfx hc
      rw [hMN] at hmx hc
      obtain ⟨x0, x1, x2, x3⟩ := hc
      have x0 := cell_keep' HB.out x0
      have x1 := cell_keep' HB.out x1
      have x2 := cell_keep' HB.out x2
      have x3 := cell_keep' HB.out x3
      have htk := sum_take Sy.restC hs
      have hle := sum_le Sy.restC cs (j + 1)
      rw [htk] at hle
      obtain ⟨R, hR⟩ : ∃ q, (s.methods.map Sy.restM).sum = q := ⟨_, rfl⟩
      have hr : Sy.restC s = FN + MN + R := by unfold Sy.restC; rw [hFN, hMN, hR]
      rw [hr] at htk hle
      have hbx := HB.out.alloc HB.out.size (.cells #[.string s.name, .bool s.actor, .slice fp FN fc, .slice mp MN mc] 49)
      have hzz := HSUM.out
      have hzl := HZ.out
      have HTOT : Hid (M + (FN + MN) + R ≤ 1000000000) := by show _ ≤ _; omega
      have hmn6 : MN ≤ 1000000000 := by have := HTOT.out; omega
      have HTK := Lib.hid htk
      have b3 : (j : Int) < (N : Int) := by omega
      have bw1 : IntKind.i64.wrap ((FN : Int) + (MN : Int)) = (FN : Int) + (MN : Int) := IntWalk.i64_in _ (by omega)
      have bw2 : IntKind.i64.wrap ((M : Int) + ((FN : Int) + (MN : Int))) = (M : Int) + ((FN : Int) + (MN : Int)) := IntWalk.i64_in _ (by omega)
      have HM := Lib.hid hM
      have HMX := Lib.hid hmx
      have HMN := Lib.hid hMN
      have HR := Lib.hid hR
      have hl0 := cell_lt' x0
      clear hs hfx hmx hFN hMN htk hle hzz hzl hR hr hM
      go_wp2_with fail
      obtain ⟨w4, hw4⟩ : ∃ q, q = wr.alloc (.cells #[.string s.name, .bool s.actor, .slice fp FN fc, .slice mp MN mc] 49) := ⟨_, rfl⟩
      rw [← hw4] at hbx ⊢
      have HB4 := Lib.hid hbx
      clear hbx hw4 x0 x1 x2 x3 hl0 bw1 bw2
      obtain ⟨M1, hM1⟩ : ∃ q : Nat, q = M + (FN + MN) := ⟨_, rfl⟩
      have hM2 : (M : Int) + ((FN : Int) + (MN : Int)) = (M1 : Int) := by omega
      rw [hM2]
      have HM1 := Lib.hid hM1
      clear hM1 hM2
      go_loopg [3, 7, 30] MN (fun g s3 s7 s30 wq => ∃ (i K : Nat), s30 = .int .i64 i ∧ i ≤ MN ∧ g = MN - i ∧ s3 = .int .i64 K ∧ K = M1 + ((s.methods.take i).map Sy.restM).sum ∧ Hid (Below w.heap.size w wq))
      case atStart => exact ⟨0, M1, rfl, Nat.zero_le _, rfl, rfl, rfl, HB4⟩
      case round =>
        obtain ⟨i, K, rfl, hi, rfl, rfl, hK, HBQ⟩ := hrel
        by_cases hlt2 : i < MN
        · obtain ⟨m, hm⟩ : ∃ m, s.methods[i]? = some m := ⟨_, List.getElem?_eq_getElem (by rw [HMN.out]; exact hlt2)⟩
          obtain ⟨b2, o2, vx, vy, rfl, _, hc, _, hpx, hsy⟩ := HMX.out.get hm
          obtain ⟨px, cx, rfl⟩ := hpx.form
          obtain ⟨py, cy, rfl, _⟩ := hsy.form
          obtain ⟨XN, hXN⟩ : ∃ q, m.params.length = q := ⟨_, rfl⟩
          obtain ⟨YN, hYN⟩ : ∃ q, m.body.length = q := ⟨_, rfl⟩
          rw [hXN] at hpx hc
          rw [hYN] at hsy hc
          obtain ⟨x0, x1, x2⟩ := CellsM.keep hc HBQ.out
          have htk := sum_take Sy.restM hm
          have hle := sum_le Sy.restM s.methods (i + 1)
          rw [htk] at hle
          obtain ⟨Y, hY⟩ : ∃ q, Sy.sizeSs m.body = q := ⟨_, rfl⟩
          have hr : Sy.restM m = XN + Y := by unfold Sy.restM; rw [hXN, hY]
          rw [hr] at htk hle
          have hbx := HBQ.out.alloc HBQ.out.size (.cells #[.string m.name, .slice px XN cx, .slice py YN cy] 64)
          have hcv := (MapKept.heap_alloc wr (.cells #[.string m.name, .slice px XN cx, .slice py YN cy] 64)).1
          obtain ⟨BX, hBX⟩ : ∃ q, wr.heap.size = q := ⟨_, rfl⟩
          rw [hBX] at hcv
          have hz1 := HTOT.out
          have hz2 := HR.out
          have hz3 := HM1.out
          have KY : Hid (∀ W, Below w.heap.size w W → Calls Tryz.prog 61 #[.slice py YN cy] W fun r w' => r = .returned (.int .i64 Y) ∧ Below W.heap.size W w') := by
            intro W hb
            have := stmtSize_any _ m.body py YN cy W (Nat.lt_succ_self _) hYN (hsy.keep hb) (by rw [hY]; omega)
            rw [hY] at this
            exact this
          have HTK := Lib.hid htk
          have b3 : (i : Int) < (MN : Int) := by omega
          have bw1 : IntKind.i64.wrap ((XN : Int) + (Y : Int)) = (XN : Int) + (Y : Int) := IntWalk.i64_in _ (by omega)
          have bw2 : IntKind.i64.wrap ((K : Int) + ((XN : Int) + (Y : Int))) = (K : Int) + ((XN : Int) + (Y : Int)) := IntWalk.i64_in _ (by omega)
          have HK := Lib.hid hK
          have hl0 := cell_lt' x0
          clear hm hc hpx hsy hXN hYN htk hle hY hr hz1 hz2 hz3 hK
          go_upto_region 9 with fail
          obtain ⟨w5, hw5⟩ : ∃ q, q = wr.alloc (.cells #[.string m.name, .slice px XN cx, .slice py YN cy] 64) := ⟨_, rfl⟩
          rw [← hw5] at hbx hcv ⊢
          try rw [hBX]
          have z1 := cell_of_blkP hcv (j := 1) (u := .slice px XN cx) rfl
          have z2 := cell_of_blkP hcv (j := 2) (u := .slice py YN cy) rfl
          have HBD : Hid (Below w.heap.size w w5.drew) := hbx.drew
          clear hbx hcv hw5 x0 x1 x2 hl0 hBX
          go_region_held3 (fun w' => w'.cell? ⟨BX, 1, none⟩ = some (.slice px XN cx) ∧ w'.cell? ⟨BX, 2, none⟩ = some (.slice py YN cy) ∧ Hid (Below w.heap.size w w')) (first | exact sz2_keep (by assumption) hb | exact ⟨z1, z2, HBD⟩ | go_keep) (first | (go_at_call 61; refine (KY.out _ (bl2_of (by assumption))).mono ?_; rintro e w' ⟨rfl, hb⟩))
          go_wp2_with fail
          go_roundg (MN - (i + 1))
          case measure => omega
          case rel =>
            refine ⟨i + 1, K + (XN + Y), by go_num, by omega, rfl, by go_num, by have h1 := HTK.out; have h2 := HK.out; omega, ?_⟩
            have h9 := bl2_of (by assumption)
            exact Lib.hid h9
        · obtain rfl : i = MN := by omega
          have hfull : s.methods.take i = s.methods := List.take_of_length_le (by rw [HMN.out]; exact Nat.le_refl _)
          rw [hfull, HR.out] at hK
          clear hfull
          go_wp2_with fail
          go_roundg (N - (j + 1))
          case measure => omega
          case rel => exact ⟨j + 1, K, by go_num, by omega, rfl, rfl, by have h1 := HTK.out; have h2 := HM.out; have h3 := HM1.out; omega, HBQ⟩
    · obtain rfl : j = N := by omega
      have hfull : cs.take j = cs := List.take_of_length_le (by rw [HN.out]; exact Nat.le_refl _)
      rw [hfull, ← HSUM.out] at hM
      subst hM
      clear hfull
      go_wp2_with fail
      go_ret
      exact ⟨rfl, HB.out⟩
end Go.Proofs.YtdckddkalgnlpaaGreatDoor
namespace Go.Proofs.YtdckddkalgnlpaaGreatDoor
open Go.RowKit Go.Maps Pw
set_option maxRecDepth 100000 in
set_option maxHeartbeats 4000000 in
theorem count_any : ∀ (d : Nat) (e : Tr.E) (p : Option Addr) (N c : Nat) (w : World), e.deep ≤ d → e.args.length = N → SlE w (.slice p N c) e.args → Sy.sizeE e ≤ 1000000000 →
    Calls Tryz.prog 34 #[exprV e (.slice p N c)] w fun r w' => r = .returned (.int .i64 (Sy.sizeE e : Nat)) ∧ Below w.heap.size w w' := by
  intro d
  induction d with
  | zero => intro e p N c w hd; have := e.deep_pos; omega
  | succ d ih =>
    intro e p N c w hd hN hS hz
    have hn6 : N ≤ 9223372036854775807 := by
      have := hS.len
      rw [hN] at this
      unfold maxLen at this
      exact this
    obtain ⟨ls, hls⟩ : ∃ q, e.args = q := ⟨_, rfl⟩
    have hsum : Sy.sizeE e = 1 + (ls.map Sy.sizeE).sum := by rw [Sy.sizeE_args, ← hls, ← Sy.sizeEs_sumE]; rfl
    have hde := E_deep_eq e
    rw [hls] at hN hS hde
    have hB := below_box w (.cells #[.int .i64 e.kind, .int .i64 e.op, .int .i64 e.int, .string e.name, .bool e.at_, .slice p N c] 33)
    have hcv := (MapKept.heap_alloc w (.cells #[.int .i64 e.kind, .int .i64 e.op, .int .i64 e.int, .string e.name, .bool e.at_, .slice p N c] 33)).1
    obtain ⟨w1, hw1⟩ : ∃ q, q = w.alloc (.cells #[.int .i64 e.kind, .int .i64 e.op, .int .i64 e.int, .string e.name, .bool e.at_, .slice p N c] 33) := ⟨_, rfl⟩
    obtain ⟨BX, hBX⟩ : ∃ q, w.heap.size = q := ⟨_, rfl⟩
    rw [← hw1] at hB hcv
    rw [hBX] at hcv
    have e5 := cell_of_blkP hcv (j := 5) (u := .slice p N c) rfl
    have HS := Lib.hid (hS.keep hB)
    have HN := Lib.hid hN
    have HD := Lib.hid hd
    have HDE := Lib.hid hde
    have HIH := Lib.hid ih
    have HZ := Lib.hid hz
    have HSUM := Lib.hid hsum
    have HB1 := Lib.hid hB
    have HW1 := Lib.hid hw1
    have HC := Lib.hid e5
    have HBXE := Lib.hid hBX
    unfold exprV
    clear ih hS hN hd hz hsum hls hB hcv hde e5
    go_enter Tryz.func34, Tryz.ntmps34
    go_upto_region 1 with fail
    rw [← HW1.out]
    try rw [hBX]
    clear HW1 hw1 hBX
    have c5 := HC.out
    go_wp2_with fail
    clear c5
    have c5a := HC.out
    go_loopg [3, 5, 9] N (fun g s3 s5 s9 wr => ∃ (j M : Nat), s9 = .int .i64 j ∧ j ≤ N ∧ g = N - j ∧ s3 = .int .i64 M ∧ M = 1 + ((ls.take j).map Sy.sizeE).sum ∧ Hid (Below w1.heap.size w1 wr))
    case atStart => exact ⟨0, 1, rfl, Nat.zero_le _, rfl, rfl, rfl, Below.refl _ _⟩
    case round =>
      obtain ⟨j, M, rfl, hj, rfl, rfl, hM, HB⟩ := hrel
      by_cases hlt : j < N
      · obtain ⟨x, hx⟩ : ∃ x, ls[j]? = some x := ⟨_, List.getElem?_eq_getElem (by rw [HN.out]; exact hlt)⟩
        obtain ⟨b', o', aa, rfl, _, hc, hbd, hsl⟩ := HS.out.get hx
        obtain ⟨pa, ca, rfl, _⟩ := hsl.form
        obtain ⟨AN, hAN⟩ : ∃ q, x.args.length = q := ⟨_, rfl⟩
        rw [hAN] at hsl hc
        obtain ⟨y0, y1, y2, y3, y4, y5⟩ := hc.keep HB.out
        have htk := sum_take Sy.sizeE hx
        have hle := sum_le Sy.sizeE ls (j + 1)
        rw [htk] at hle
        obtain ⟨Z, hZ⟩ : ∃ q, Sy.sizeE x = q := ⟨_, rfl⟩
        rw [hZ] at htk hle
        have hbx := HB.out.alloc HB.out.size (.cells #[.int .i64 x.kind, .int .i64 x.op, .int .i64 x.int, .string x.name, .bool x.at_, .slice pa AN ca] 33)
        obtain ⟨w4, hw4⟩ : ∃ q, q = wr.alloc (.cells #[.int .i64 x.kind, .int .i64 x.op, .int .i64 x.int, .string x.name, .bool x.at_, .slice pa AN ca] 33) := ⟨_, rfl⟩
        rw [← hw4] at hbx
        have hzz := HSUM.out
        have hzl := HZ.out
        have hdx := Tr.E.deeps_get ls j x hx
        have hcall := HIH.out x pa AN ca w4 (by have := HD.out; have := HDE.out; omega) hAN (hsl.keep hbx) (by rw [hZ]; omega)
        rw [hZ] at hcall
        unfold exprV at hcall
        have HCALL := Lib.hid hcall
        have HBX := Lib.hid hbx
        have HW4 := Lib.hid hw4
        have HTK := Lib.hid htk
        have b3 : (j : Int) < (N : Int) := by omega
        have bw : IntKind.i64.wrap ((M : Int) + (Z : Int)) = (M : Int) + (Z : Int) := IntWalk.i64_in _ (by omega)
        have HM := Lib.hid hM
        have hl0 := cell_lt' y0
        clear hx hc hbd hsl hAN htk hle hbx hw4 hzz hzl hdx hcall hZ hM c5a
        go_wp2_with fail
        rw [← HW4.out]
        refine HCALL.out.mono ?_
        rintro e' w5 ⟨rfl, hb5⟩
        have HB5 := Lib.hid (HBX.out.trans (hb5.mono HBX.out.size))
        clear hb5 y0 y1 y2 y3 y4 y5 hl0 HW4
        go_wp2_with fail
        go_roundg (N - (j + 1))
        case measure => omega
        case rel => exact ⟨j + 1, M + Z, by go_num, by omega, rfl, by go_num, by have h1 := HTK.out; have h2 := HM.out; omega, HB5⟩
      · obtain rfl : j = N := by omega
        have hfull : ls.take j = ls := List.take_of_length_le (by rw [HN.out]; exact Nat.le_refl _)
        rw [hfull, ← HSUM.out] at hM
        subst hM
        clear hfull
        go_wp2_with fail
        go_ret
        exact ⟨rfl, below_next HB1.out HB.out⟩
end Go.Proofs.YtdckddkalgnlpaaGreatDoor
