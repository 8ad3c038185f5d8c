/-
  Several texts in one: SySize, SySizeS, SySizeP, SyEqE, SyEqX, SyReqE, SyReqX, SyReqN, SyRefLvl.
-/
import Derived.Test.YtdckddkalgnlpaaGreatDoorA13
namespace Go.Proofs.YtdckddkalgnlpaaGreatDoor
open Go.RowKit Go.Maps
theorem sum_take {α : Type} (g : α → Nat) {ls : List α} {j : Nat} {s : α} (h : ls[j]? = some s) : ((ls.take (j + 1)).map g).sum = ((ls.take j).map g).sum + g s := by
 rw [List.take_add_one, h]; simp
theorem sum_le {α : Type} (g : α → Nat) (ls : List α) (j : Nat) : ((ls.take j).map g).sum ≤ (ls.map g).sum := by
 have h : (ls.map g).sum = ((ls.take j).map g).sum + ((ls.drop j).map g).sum := by rw [← List.sum_append, ← List.map_append, List.take_append_drop]
 rw [h]; omega
namespace Sy
def argsZ (e : Tr.E) : Nat := sizeEs e.args
theorem sizeE_args (e : Tr.E) : sizeE e = 1 + argsZ e := by cases e; rw [sizeE]; rfl
theorem sizeEs_sum : ∀ ls : List Tr.E, sizeEs ls = ls.length + (ls.map argsZ).sum
 | [] => by rw [sizeEs]; rfl
 | e :: r => by rw [sizeEs, sizeEs_sum r, sizeE_args, List.length_cons, List.map_cons, List.sum_cons]; omega
theorem sizeEs_sumE : ∀ ls : List Tr.E, sizeEs ls = (ls.map sizeE).sum
 | [] => by rw [sizeEs]; rfl
 | e :: r => by rw [sizeEs, sizeEs_sumE r, List.map_cons, List.sum_cons]
end Sy
theorem E_deep_eq (x : Tr.E) : x.deep = 1 + Tr.E.deep.deeps x.args := by cases x; rw [Tr.E.deep]; rfl
set_option maxRecDepth 100000 in
set_option maxHeartbeats 4000000 in
theorem exprSize_any : ∀ (d : Nat) (ls : List Tr.E) (p : Option Addr) (N c : Nat) (w : World), Tr.E.deep.deeps ls < d → ls.length = N → SlE w (.slice p N c) ls → Sy.sizeEs ls ≤ 1000000000 →
 Calls Tryz.prog 112 #[.slice p N c] w fun r w' => r = .returned (.int .i64 (Sy.sizeEs ls : Nat)) ∧ Below w.heap.size w w' := by
 intro d
 induction d with
 | zero => intro ls p N c w hd; omega
 | succ d ih =>
   intro ls p N c w hd hN hS hz
   have hn6 : N ≤ 9223372036854775807 := by
    have := hS.len
    rw [hN] at this
    unfold maxLen at this
    exact this
   have hsum := Sy.sizeEs_sum ls
   rw [hN] at hsum
   have HS := Lib.hid hS
   have HN := Lib.hid hN
   have HD := Lib.hid hd
   have HIH := Lib.hid ih
   have HZ := Lib.hid hz
   have HSUM := Lib.hid hsum
   clear ih hS hN hd hz hsum
   go_enter Tryz.func112, Tryz.ntmps112
   go_wp2_with fail
   go_loopg [3, 5, 10] N (fun g s3 s5 s10 wr => ∃ (j M : Nat), s10 = .int .i64 j ∧ j ≤ N ∧ g = N - j ∧ s3 = .int .i64 M ∧ M = N + ((ls.take j).map Sy.argsZ).sum ∧ Hid (Below w.heap.size w wr))
   case atStart => exact ⟨0, N, rfl, Nat.zero_le _, rfl, rfl, rfl, Below.refl _ _⟩
   case round =>
    obtain ⟨j, M, rfl, hj, rfl, rfl, hM, HB⟩ := hrel
    by_cases hlt : j < N
    ·obtain ⟨x, hx⟩ : ∃ x, ls[j]? = some x := ⟨_, List.getElem?_eq_getElem (by rw [HN.out]; exact hlt)⟩
     obtain ⟨b', o', aa, rfl, _, hc, hbd, hsl⟩ := HS.out.get hx
     obtain ⟨pa, ca, rfl, _⟩ := hsl.form
     obtain ⟨AN, hAN⟩ : ∃ q, x.args.length = q := ⟨_, rfl⟩
     rw [hAN] at hsl hc
     obtain ⟨y0, y1, y2, y3, y4, y5⟩ := hc.keep HB.out
     have htk := sum_take Sy.argsZ hx
     have hle := sum_le Sy.argsZ ls (j + 1)
     rw [htk] at hle
     obtain ⟨Z, hZ⟩ : ∃ q, Sy.argsZ x = q := ⟨_, rfl⟩
     rw [hZ] at htk hle
     have hbx := HB.out.alloc HB.out.size (.cells #[.int .i64 x.kind, .int .i64 x.op, .int .i64 x.int, .string x.name, .bool x.at_, .slice pa AN ca] 33)
     obtain ⟨w4, hw4⟩ : ∃ q, q = wr.alloc (.cells #[.int .i64 x.kind, .int .i64 x.op, .int .i64 x.int, .string x.name, .bool x.at_, .slice pa AN ca] 33) := ⟨_, rfl⟩
     rw [← hw4] at hbx
     have hzz := HSUM.out
     have hzl := HZ.out
     have hdx := Tr.E.deeps_get ls j x hx
     have hde := E_deep_eq x
     have hcall := HIH.out x.args pa AN ca w4 (by have := HD.out; omega) hAN (hsl.keep hbx) (by show Sy.argsZ x ≤ _; rw [hZ]; omega)
     rw [show Sy.sizeEs x.args = Z from hZ] at hcall
     have HCALL := Lib.hid hcall
     have HBX := Lib.hid hbx
     have HW4 := Lib.hid hw4
     have HTK := Lib.hid htk
     have b3 : (j : Int) < (N : Int) := by omega
     have bw : IntKind.i64.wrap ((M : Int) + (Z : Int)) = (M : Int) + (Z : Int) := IntWalk.i64_in _ (by omega)
     have HM := Lib.hid hM
     have hl0 := cell_lt' y0
     clear hx hc hbd hsl hAN htk hle hbx hw4 hzz hzl hdx hde hcall hZ hM
     go_wp2_with fail
     rw [← HW4.out]
     refine HCALL.out.mono ?_
     rintro e' w5 ⟨rfl, hb5⟩
     have HB5 := Lib.hid (HBX.out.trans (hb5.mono HBX.out.size))
     clear hb5 y0 y1 y2 y3 y4 y5 hl0 HW4
     go_wp2_with fail
     go_roundg (N - (j + 1))
     case measure => omega
     case rel => exact ⟨j + 1, M + Z, by go_num, by omega, rfl, by go_num, by have h1 := HTK.out; have h2 := HM.out; omega, HB5⟩
    ·obtain rfl : j = N := by omega
     have hfull : ls.take j = ls := List.take_of_length_le (by rw [HN.out]; exact Nat.le_refl _)
     rw [hfull, ← HSUM.out] at hM
     subst hM
     clear hfull
     go_wp2_with fail
     go_ret
     exact ⟨rfl, HB.out⟩
set_option maxRecDepth 100000 in
set_option maxHeartbeats 4000000 in
theorem refExprSize_any : ∀ (d : Nat) (e : Tr.E) (p : Option Addr) (N c : Nat) (w : World), e.deep ≤ d → e.args.length = N → SlE w (.slice p N c) e.args → Sy.sizeE e ≤ 1000000000 →
 Calls Tryz.prog 36 #[exprV e (.slice p N c)] w fun r w' => r = .returned (.int .i64 (Sy.sizeE e : Nat)) ∧ Below w.heap.size w w' := by
 intro d
 induction d with
 | zero => intro e p N c w hd; have := e.deep_pos; omega
 | succ d ih =>
   intro e p N c w hd hN hS hz
   have hn6 : N ≤ 9223372036854775807 := by
    have := hS.len
    rw [hN] at this
    unfold maxLen at this
    exact this
   obtain ⟨ls, hls⟩ : ∃ q, e.args = q := ⟨_, rfl⟩
   have hsum : Sy.sizeE e = 1 + (ls.map Sy.sizeE).sum := by rw [Sy.sizeE_args, ← hls, ← Sy.sizeEs_sumE]; rfl
   have hde := E_deep_eq e
   rw [hls] at hN hS hde
   have hB := below_box w (.cells #[.int .i64 e.kind, .int .i64 e.op, .int .i64 e.int, .string e.name, .bool e.at_, .slice p N c] 33)
   have hcv := (MapKept.heap_alloc w (.cells #[.int .i64 e.kind, .int .i64 e.op, .int .i64 e.int, .string e.name, .bool e.at_, .slice p N c] 33)).1
   obtain ⟨w1, hw1⟩ : ∃ q, q = w.alloc (.cells #[.int .i64 e.kind, .int .i64 e.op, .int .i64 e.int, .string e.name, .bool e.at_, .slice p N c] 33) := ⟨_, rfl⟩
   obtain ⟨BX, hBX⟩ : ∃ q, w.heap.size = q := ⟨_, rfl⟩
   rw [← hw1] at hB hcv
   rw [hBX] at hcv
   have e5 := cell_of_blkP hcv (j := 5) (u := .slice p N c) rfl
   have HS := Lib.hid (hS.keep hB)
   have HN := Lib.hid hN
   have HD := Lib.hid hd
   have HDE := Lib.hid hde
   have HIH := Lib.hid ih
   have HZ := Lib.hid hz
   have HSUM := Lib.hid hsum
   have HB1 := Lib.hid hB
   have HW1 := Lib.hid hw1
   have HC := Lib.hid e5
   have HBXE := Lib.hid hBX
   unfold exprV
   clear ih hS hN hd hz hsum hls hB hcv hde e5
   go_enter Tryz.func36, Tryz.ntmps36
   go_wp2_with fail
   rw [← HW1.out]
   try rw [hBX]
   clear HW1 hw1 hBX
   go_loopg [3, 4] N (fun g s3 s4 wr => ∃ (j M : Nat), s4 = .int .i64 j ∧ j ≤ N ∧ g = N - j ∧ s3 = .int .i64 M ∧ M = 1 + ((ls.take j).map Sy.sizeE).sum ∧ Hid (Below w1.heap.size w1 wr))
   case atStart => exact ⟨0, 1, rfl, Nat.zero_le _, rfl, rfl, rfl, Below.refl _ _⟩
   case round =>
    obtain ⟨j, M, rfl, hj, rfl, rfl, hM, HB⟩ := hrel
    have c5 := cell_keep' HB.out HC.out
    by_cases hlt : j < N
    ·obtain ⟨x, hx⟩ : ∃ x, ls[j]? = some x := ⟨_, List.getElem?_eq_getElem (by rw [HN.out]; exact hlt)⟩
     obtain ⟨b', o', aa, rfl, _, hc, hbd, hsl⟩ := HS.out.get hx
     obtain ⟨pa, ca, rfl, _⟩ := hsl.form
     obtain ⟨AN, hAN⟩ : ∃ q, x.args.length = q := ⟨_, rfl⟩
     rw [hAN] at hsl hc
     obtain ⟨y0, y1, y2, y3, y4, y5⟩ := hc.keep HB.out
     have htk := sum_take Sy.sizeE hx
     have hle := sum_le Sy.sizeE ls (j + 1)
     rw [htk] at hle
     obtain ⟨Z, hZ⟩ : ∃ q, Sy.sizeE x = q := ⟨_, rfl⟩
     rw [hZ] at htk hle
     have hzz := HSUM.out
     have hzl := HZ.out
     have hdx := Tr.E.deeps_get ls j x hx
     have hcall := HIH.out x pa AN ca wr (by have := HD.out; have := HDE.out; omega) hAN (hsl.keep HB.out) (by rw [hZ]; omega)
     rw [hZ] at hcall
     unfold exprV at hcall
     have HCALL := Lib.hid hcall
     have HTK := Lib.hid htk
     have b3 : (j : Int) < (N : Int) := by omega
     have bw : IntKind.i64.wrap ((M : Int) + (Z : Int)) = (M : Int) + (Z : Int) := IntWalk.i64_in _ (by omega)
     have HM := Lib.hid hM
     have hl0 := cell_lt' y0
     clear hx hc hbd hsl hAN htk hle hzz hzl hdx hcall hZ hM
     go_wp2_with fail
     refine HCALL.out.mono ?_
     rintro e' w5 ⟨rfl, hb5⟩
     have HB5 := Lib.hid (HB.out.trans (hb5.mono HB.out.size))
     clear hb5 y0 y1 y2 y3 y4 y5 hl0 c5
     go_wp2_with fail
     go_roundg (N - (j + 1))
     case measure => omega
     case rel => exact ⟨j + 1, M + Z, by go_num, by omega, rfl, by go_num, by have h1 := HTK.out; have h2 := HM.out; omega, HB5⟩
    ·obtain rfl : j = N := by omega
     have hfull : ls.take j = ls := List.take_of_length_le (by rw [HN.out]; exact Nat.le_refl _)
     rw [hfull, ← HSUM.out] at hM
     subst hM
     clear hfull
     go_wp2_with fail
     go_ret
     exact ⟨rfl, HB1.out.trans (HB.out.mono HB1.out.size)⟩
end Go.Proofs.YtdckddkalgnlpaaGreatDoor
namespace Go.Proofs.YtdckddkalgnlpaaGreatDoor
open Go.RowKit Go.Maps
namespace Sy
def restZ (s : Tr.S) : Nat := sizeEs s.exprs + sizeSs s.body + sizeSs s.els
theorem sizeS_rest (s : Tr.S) : sizeS s = 1 + restZ s := by
 obtain ⟨k, nm, x, b, l⟩ := s
 rw [sizeS]
 show _ = 1 + (sizeEs x + sizeSs b + sizeSs l)
 omega
theorem sizeSs_sum : ∀ ls : List Tr.S, sizeSs ls = ls.length + (ls.map restZ).sum
 | [] => by rw [sizeSs]; rfl
 | e :: r => by rw [sizeSs, sizeSs_sum r, sizeS_rest, List.length_cons, List.map_cons, List.sum_cons]; omega
end Sy
theorem S_deep_eq (x : Tr.S) : x.deep = 1 + max (Tr.S.deep.deeps x.body) (Tr.S.deep.deeps x.els) := by cases x; rw [Tr.S.deep]; rfl
theorem bl_of {w0 w : World} {a b c : Prop} (h : a ∧ b ∧ c ∧ Hid (Below w0.heap.size w0 w)) : Below w0.heap.size w0 w := h.2.2.2.out
theorem sz_keep {w0 w w' : World} {B : Nat} {x y z : Value} (h : w.cell? ⟨B, 2, none⟩ = some x ∧ w.cell? ⟨B, 3, none⟩ = some y ∧ w.cell? ⟨B, 4, none⟩ = some z ∧ Hid (Below w0.heap.size w0 w)) (hb : Below w.heap.size w w') :
 w'.cell? ⟨B, 2, none⟩ = some x ∧ w'.cell? ⟨B, 3, none⟩ = some y ∧ w'.cell? ⟨B, 4, none⟩ = some z ∧ Hid (Below w0.heap.size w0 w') :=
 ⟨cell_keep' hb h.1, cell_keep' hb h.2.1, cell_keep' hb h.2.2.1, h.2.2.2.out.trans (hb.mono h.2.2.2.out.size)⟩
set_option maxRecDepth 100000 in
set_option maxHeartbeats 8000000 in
theorem stmtSize_any : ∀ (d : Nat) (ls : List Tr.S) (p : Option Addr) (N c : Nat) (w : World), Tr.S.deep.deeps ls < d → ls.length = N → SlS w (.slice p N c) ls → Sy.sizeSs ls ≤ 1000000000 →
 Calls Tryz.prog 61 #[.slice p N c] w fun r w' => r = .returned (.int .i64 (Sy.sizeSs ls : Nat)) ∧ Below w.heap.size w w' := by
 intro d
 induction d with
 | zero => intro ls p N c w hd; omega
 | succ d ih =>
   intro ls p N c w hd hN hS hz
   have hn6 : N ≤ 9223372036854775807 := by
    have := hS.len
    rw [hN] at this
    unfold maxLen at this
    exact this
   have hsum := Sy.sizeSs_sum ls
   rw [hN] at hsum
   have HS := Lib.hid hS
   have HN := Lib.hid hN
   have HD := Lib.hid hd
   have HIH := Lib.hid ih
   have HZ := Lib.hid hz
   have HSUM := Lib.hid hsum
   clear ih hS hN hd hz hsum
   go_enter Tryz.func61, Tryz.ntmps61
   go_wp2_with fail
   go_loopg [3, 5, 10] N (fun g s3 s5 s10 wr => ∃ (j M : Nat), s10 = .int .i64 j ∧ j ≤ N ∧ g = N - j ∧ s3 = .int .i64 M ∧ M = N + ((ls.take j).map Sy.restZ).sum ∧ Hid (Below w.heap.size w wr))
   case atStart => exact ⟨0, N, rfl, Nat.zero_le _, rfl, rfl, rfl, Below.refl _ _⟩
   case round =>
    obtain ⟨j, M, rfl, hj, rfl, rfl, hM, HB⟩ := hrel
    by_cases hlt : j < N
    ·obtain ⟨s, hx⟩ : ∃ x, ls[j]? = some x := ⟨_, List.getElem?_eq_getElem (by rw [HN.out]; exact hlt)⟩
     obtain ⟨b', o', vx, vy, vz, rfl, _, hc, hbd, hsx, hsy, hsz⟩ := HS.out.get hx
     obtain ⟨px, cx, rfl, _⟩ := hsx.form
     obtain ⟨py, cy, rfl, _⟩ := hsy.form
     obtain ⟨pz, cz, rfl, _⟩ := hsz.form
     obtain ⟨XN, hXN⟩ : ∃ q, s.exprs.length = q := ⟨_, rfl⟩
     obtain ⟨YN, hYN⟩ : ∃ q, s.body.length = q := ⟨_, rfl⟩
     obtain ⟨ZN, hZN⟩ : ∃ q, s.els.length = q := ⟨_, rfl⟩
     rw [hXN] at hsx hc
     rw [hYN] at hsy hc
     rw [hZN] at hsz hc
     obtain ⟨y0, y1, y2, y3, y4⟩ := hc.keep HB.out
     have htk := sum_take Sy.restZ hx
     have hle := sum_le Sy.restZ ls (j + 1)
     rw [htk] at hle
     obtain ⟨X, hX⟩ : ∃ q, Sy.sizeEs s.exprs = q := ⟨_, rfl⟩
     obtain ⟨Y, hY⟩ : ∃ q, Sy.sizeSs s.body = q := ⟨_, rfl⟩
     obtain ⟨Z, hZ⟩ : ∃ q, Sy.sizeSs s.els = q := ⟨_, rfl⟩
     have hr : Sy.restZ s = X + Y + Z := by unfold Sy.restZ; rw [hX, hY, hZ]
     rw [hr] at htk hle
     have hbx := HB.out.alloc HB.out.size (.cells #[.int .i64 s.kind, .string s.name, .slice px XN cx, .slice py YN cy, .slice pz ZN cz] 94)
     have hcv := (MapKept.heap_alloc wr (.cells #[.int .i64 s.kind, .string s.name, .slice px XN cx, .slice py YN cy, .slice pz ZN cz] 94)).1
     obtain ⟨BX, hBX⟩ : ∃ q, wr.heap.size = q := ⟨_, rfl⟩
     rw [hBX] at hcv
     have hzz := HSUM.out
     have hzl := HZ.out
     have hdx := Tr.S.deeps_get ls j s hx
     have hde := S_deep_eq s
     have hd2 := HD.out
     have KX : Hid (∀ W, Below w.heap.size w W → Calls Tryz.prog 112 #[.slice px XN cx] W fun r w' => r = .returned (.int .i64 X) ∧ Below W.heap.size W w') := by
      intro W hb
      have := exprSize_any _ s.exprs px XN cx W (Nat.lt_succ_self _) hXN (hsx.keep hb) (by rw [hX]; omega)
      rw [hX] at this
      exact this
     have KY : Hid (∀ W, Below w.heap.size w W → Calls Tryz.prog 61 #[.slice py YN cy] W fun r w' => r = .returned (.int .i64 Y) ∧ Below W.heap.size W w') := by
      intro W hb
      have := HIH.out s.body py YN cy W (by omega) hYN (hsy.keep hb) (by rw [hY]; omega)
      rw [hY] at this
      exact this
     have KZ : Hid (∀ W, Below w.heap.size w W → Calls Tryz.prog 61 #[.slice pz ZN cz] W fun r w' => r = .returned (.int .i64 Z) ∧ Below W.heap.size W w') := by
      intro W hb
      have := HIH.out s.els pz ZN cz W (by omega) hZN (hsz.keep hb) (by rw [hZ]; omega)
      rw [hZ] at this
      exact this
     have HTK := Lib.hid htk
     have b3 : (j : Int) < (N : Int) := by omega
     have bw1 : IntKind.i64.wrap ((X : Int) + (Y : Int)) = (X : Int) + (Y : Int) := IntWalk.i64_in _ (by omega)
     have bw2 : IntKind.i64.wrap ((X : Int) + (Y : Int) + (Z : Int)) = (X : Int) + (Y : Int) + (Z : Int) := IntWalk.i64_in _ (by omega)
     have bw3 : IntKind.i64.wrap ((M : Int) + ((X : Int) + (Y : Int) + (Z : Int))) = (M : Int) + ((X : Int) + (Y : Int) + (Z : Int)) := IntWalk.i64_in _ (by omega)
     have HM := Lib.hid hM
     have hl0 := cell_lt' y0
     clear hx hc hbd hsx hsy hsz hXN hYN hZN htk hle hzz hzl hdx hde hd2 hX hY hZ hr hM
     go_upto_region 5 with fail
     obtain ⟨w4, hw4⟩ : ∃ q, q = wr.alloc (.cells #[.int .i64 s.kind, .string s.name, .slice px XN cx, .slice py YN cy, .slice pz ZN cz] 94) := ⟨_, rfl⟩
     rw [← hw4] at hbx hcv ⊢
     try rw [hBX]
     have z2 := cell_of_blkP hcv (j := 2) (u := .slice px XN cx) rfl
     have z3 := cell_of_blkP hcv (j := 3) (u := .slice py YN cy) rfl
     have z4 := cell_of_blkP hcv (j := 4) (u := .slice pz ZN cz) rfl
     have HB4 := Lib.hid hbx
     have HBD : Hid (Below w.heap.size w w4.drew) := hbx.drew
     clear hbx hcv hw4 y0 y1 y2 y3 y4 hl0 hBX
     go_region_held3 (fun w' => w'.cell? ⟨BX, 2, none⟩ = some (.slice px XN cx) ∧ w'.cell? ⟨BX, 3, none⟩ = some (.slice py YN cy) ∧ w'.cell? ⟨BX, 4, none⟩ = some (.slice pz ZN cz) ∧ Hid (Below w.heap.size w w')) (first | exact sz_keep (by assumption) hb | exact ⟨z2, z3, z4, HBD⟩ | go_keep) (first | (go_at_call 112; refine (KX.out _ (bl_of (by assumption))).mono ?_; rintro e w' ⟨rfl, hb⟩) | (go_at_call 61; (first | (with_reducible refine (KY.out _ (bl_of (by assumption))).mono ?_) | (with_reducible refine (KZ.out _ (bl_of (by assumption))).mono ?_)); rintro e w' ⟨rfl, hb⟩))
     go_wp2_with fail
     go_roundg (N - (j + 1))
     case measure => omega
     case rel =>
      refine ⟨j + 1, M + (X + Y + Z), by go_num, by omega, rfl, by go_num, by have h1 := HTK.out; have h2 := HM.out; omega, ?_⟩
      have h9 := bl_of (by assumption)
      exact Lib.hid h9
    ·obtain rfl : j = N := by omega
     have hfull : ls.take j = ls := List.take_of_length_le (by rw [HN.out]; exact Nat.le_refl _)
     rw [hfull, ← HSUM.out] at hM
     subst hM
     clear hfull
     go_wp2_with fail
     go_ret
     exact ⟨rfl, HB.out⟩
end Go.Proofs.YtdckddkalgnlpaaGreatDoor
namespace Go.Proofs.YtdckddkalgnlpaaGreatDoor
open Go.RowKit Go.Maps
namespace Sy
def restM (m : Tr.M) : Nat := m.params.length + sizeSs m.body
def restC (c : Tr.C) : Nat := c.fields.length + c.methods.length + (c.methods.map restM).sum
theorem sizeMs_sum : ∀ ms : List Tr.M, (ms.map sizeM).sum = ms.length + (ms.map restM).sum
 | [] => rfl
 | m :: r => by
   rw [List.map_cons, List.map_cons, List.sum_cons, List.sum_cons, sizeMs_sum r, List.length_cons, sizeM, restM]
   omega
theorem sizeC_rest (c : Tr.C) : sizeC c = 1 + restC c := by rw [sizeC, restC, sizeMs_sum]; omega
theorem sizeP_sum : ∀ cs : List Tr.C, sizeP cs = cs.length + (cs.map restC).sum
 | [] => rfl
 | c :: r => by
   have h := sizeP_sum r
   unfold sizeP at h ⊢
   rw [List.map_cons, List.map_cons, List.sum_cons, List.sum_cons, h, List.length_cons, sizeC_rest]
   omega
end Sy
theorem bl2_of {w0 w : World} {a b : Prop} (h : a ∧ b ∧ Hid (Below w0.heap.size w0 w)) : Below w0.heap.size w0 w := h.2.2.out
theorem sz2_keep {w0 w w' : World} {B : Nat} {x y : Value} (h : w.cell? ⟨B, 1, none⟩ = some x ∧ w.cell? ⟨B, 2, none⟩ = some y ∧ Hid (Below w0.heap.size w0 w)) (hb : Below w.heap.size w w') :
 w'.cell? ⟨B, 1, none⟩ = some x ∧ w'.cell? ⟨B, 2, none⟩ = some y ∧ Hid (Below w0.heap.size w0 w') :=
 ⟨cell_keep' hb h.1, cell_keep' hb h.2.1, h.2.2.out.trans (hb.mono h.2.2.out.size)⟩
set_option maxRecDepth 100000 in
set_option maxHeartbeats 8000000 in
theorem size_any (v : Value) (cs : List Tr.C) (w : World) (hS : SlC w v cs) (hz : Sy.sizeP cs ≤ 1000000000) :
 Calls Tryz.prog 26 #[.agg #[v]] w fun r w' => r = .returned (.int .i64 (Sy.sizeP cs : Nat)) ∧ Below w.heap.size w w' := by
 obtain ⟨p, c, rfl⟩ := hS.form
 have hsum := Sy.sizeP_sum cs
 obtain ⟨N, hN⟩ : ∃ q, cs.length = q := ⟨_, rfl⟩
 rw [hN] at hS hsum ⊢
 have hn6 : N ≤ 1000000000 := by omega
 have hB := below_box w (.cells #[.slice p N c] 25)
 have hcv := (MapKept.heap_alloc w (.cells #[.slice p N c] 25)).1
 obtain ⟨w1, hw1⟩ : ∃ q, q = w.alloc (.cells #[.slice p N c] 25) := ⟨_, rfl⟩
 rw [← hw1] at hB hcv
 have HW1 := Lib.hid hw1
 have HB1 := Lib.hid hB
 have HS := Lib.hid hS
 have HN := Lib.hid hN
 have HZ := Lib.hid hz
 have HSUM := Lib.hid hsum
 have e0 := cell_of_blkP hcv (j := 0) (u := .slice p N c) rfl
 rw [hw1] at e0
 clear hS hN hz hsum hw1 hB hcv
 go_enter Tryz.func26, Tryz.ntmps26
 go_wp2_with fail
 rw [← HW1.out]
 clear e0 HW1
 go_loopg [3, 5, 7, 14] N (fun g s3 s5 s7 s14 wr => ∃ (j M : Nat), s14 = .int .i64 j ∧ j ≤ N ∧ g = N - j ∧ s3 = .int .i64 M ∧ M = N + ((cs.take j).map Sy.restC).sum ∧ Hid (Below w.heap.size w wr))
 case atStart => exact ⟨0, N, rfl, Nat.zero_le _, rfl, rfl, rfl, HB1⟩
 case round =>
  obtain ⟨j, M, rfl, hj, rfl, rfl, hM, HB⟩ := hrel
  by_cases hlt : j < N
  ·obtain ⟨s, hs⟩ : ∃ s, cs[j]? = some s := ⟨_, List.getElem?_eq_getElem (by rw [HN.out]; exact hlt)⟩
   obtain ⟨b', o', vx, vy, rfl, _, hc, _, hfx, hmx⟩ := HS.out.get hs
   obtain ⟨fp, fc, rfl⟩ := hfx.form
   obtain ⟨mp, mc, rfl⟩ := hmx.form
   obtain ⟨FN, hFN⟩ : ∃ q, s.fields.length = q := ⟨_, rfl⟩
   obtain ⟨MN, hMN⟩ : ∃ q, s.methods.length = q := ⟨_, rfl⟩
   rw [hFN] at hfx hc
   rw [hMN] at hmx hc
   obtain ⟨x0, x1, x2, x3⟩ := hc
   have x0 := cell_keep' HB.out x0
   have x1 := cell_keep' HB.out x1
   have x2 := cell_keep' HB.out x2
   have x3 := cell_keep' HB.out x3
   have htk := sum_take Sy.restC hs
   have hle := sum_le Sy.restC cs (j + 1)
   rw [htk] at hle
   obtain ⟨R, hR⟩ : ∃ q, (s.methods.map Sy.restM).sum = q := ⟨_, rfl⟩
   have hr : Sy.restC s = FN + MN + R := by unfold Sy.restC; rw [hFN, hMN, hR]
   rw [hr] at htk hle
   have hbx := HB.out.alloc HB.out.size (.cells #[.string s.name, .bool s.actor, .slice fp FN fc, .slice mp MN mc] 49)
   have hzz := HSUM.out
   have hzl := HZ.out
   have HTOT : Hid (M + (FN + MN) + R ≤ 1000000000) := by show _ ≤ _; omega
   have hmn6 : MN ≤ 1000000000 := by have := HTOT.out; omega
   have HTK := Lib.hid htk
   have b3 : (j : Int) < (N : Int) := by omega
   have bw1 : IntKind.i64.wrap ((FN : Int) + (MN : Int)) = (FN : Int) + (MN : Int) := IntWalk.i64_in _ (by omega)
   have bw2 : IntKind.i64.wrap ((M : Int) + ((FN : Int) + (MN : Int))) = (M : Int) + ((FN : Int) + (MN : Int)) := IntWalk.i64_in _ (by omega)
   have HM := Lib.hid hM
   have HMX := Lib.hid hmx
   have HMN := Lib.hid hMN
   have HR := Lib.hid hR
   have hl0 := cell_lt' x0
   clear hs hfx hmx hFN hMN htk hle hzz hzl hR hr hM
   go_wp2_with fail
   obtain ⟨w4, hw4⟩ : ∃ q, q = wr.alloc (.cells #[.string s.name, .bool s.actor, .slice fp FN fc, .slice mp MN mc] 49) := ⟨_, rfl⟩
   rw [← hw4] at hbx ⊢
   have HB4 := Lib.hid hbx
   clear hbx hw4 x0 x1 x2 x3 hl0 bw1 bw2
   obtain ⟨M1, hM1⟩ : ∃ q : Nat, q = M + (FN + MN) := ⟨_, rfl⟩
   have hM2 : (M : Int) + ((FN : Int) + (MN : Int)) = (M1 : Int) := by omega
   rw [hM2]
   have HM1 := Lib.hid hM1
   clear hM1 hM2
   go_loopg [3, 7, 30] MN (fun g s3 s7 s30 wq => ∃ (i K : Nat), s30 = .int .i64 i ∧ i ≤ MN ∧ g = MN - i ∧ s3 = .int .i64 K ∧ K = M1 + ((s.methods.take i).map Sy.restM).sum ∧ Hid (Below w.heap.size w wq))
   case atStart => exact ⟨0, M1, rfl, Nat.zero_le _, rfl, rfl, rfl, HB4⟩
   case round =>
    obtain ⟨i, K, rfl, hi, rfl, rfl, hK, HBQ⟩ := hrel
    by_cases hlt2 : i < MN
    ·obtain ⟨m, hm⟩ : ∃ m, s.methods[i]? = some m := ⟨_, List.getElem?_eq_getElem (by rw [HMN.out]; exact hlt2)⟩
     obtain ⟨b2, o2, vx, vy, rfl, _, hc, _, hpx, hsy⟩ := HMX.out.get hm
     obtain ⟨px, cx, rfl⟩ := hpx.form
     obtain ⟨py, cy, rfl, _⟩ := hsy.form
     obtain ⟨XN, hXN⟩ : ∃ q, m.params.length = q := ⟨_, rfl⟩
     obtain ⟨YN, hYN⟩ : ∃ q, m.body.length = q := ⟨_, rfl⟩
     rw [hXN] at hpx hc
     rw [hYN] at hsy hc
     obtain ⟨x0, x1, x2⟩ := CellsM.keep hc HBQ.out
     have htk := sum_take Sy.restM hm
     have hle := sum_le Sy.restM s.methods (i + 1)
     rw [htk] at hle
     obtain ⟨Y, hY⟩ : ∃ q, Sy.sizeSs m.body = q := ⟨_, rfl⟩
     have hr : Sy.restM m = XN + Y := by unfold Sy.restM; rw [hXN, hY]
     rw [hr] at htk hle
     have hbx := HBQ.out.alloc HBQ.out.size (.cells #[.string m.name, .slice px XN cx, .slice py YN cy] 64)
     have hcv := (MapKept.heap_alloc wr (.cells #[.string m.name, .slice px XN cx, .slice py YN cy] 64)).1
     obtain ⟨BX, hBX⟩ : ∃ q, wr.heap.size = q := ⟨_, rfl⟩
     rw [hBX] at hcv
     have hz1 := HTOT.out
     have hz2 := HR.out
     have hz3 := HM1.out
     have KY : Hid (∀ W, Below w.heap.size w W → Calls Tryz.prog 61 #[.slice py YN cy] W fun r w' => r = .returned (.int .i64 Y) ∧ Below W.heap.size W w') := by
      intro W hb
      have := stmtSize_any _ m.body py YN cy W (Nat.lt_succ_self _) hYN (hsy.keep hb) (by rw [hY]; omega)
      rw [hY] at this
      exact this
     have HTK := Lib.hid htk
     have b3 : (i : Int) < (MN : Int) := by omega
     have bw1 : IntKind.i64.wrap ((XN : Int) + (Y : Int)) = (XN : Int) + (Y : Int) := IntWalk.i64_in _ (by omega)
     have bw2 : IntKind.i64.wrap ((K : Int) + ((XN : Int) + (Y : Int))) = (K : Int) + ((XN : Int) + (Y : Int)) := IntWalk.i64_in _ (by omega)
     have HK := Lib.hid hK
     have hl0 := cell_lt' x0
     clear hm hc hpx hsy hXN hYN htk hle hY hr hz1 hz2 hz3 hK
     go_upto_region 9 with fail
     obtain ⟨w5, hw5⟩ : ∃ q, q = wr.alloc (.cells #[.string m.name, .slice px XN cx, .slice py YN cy] 64) := ⟨_, rfl⟩
     rw [← hw5] at hbx hcv ⊢
     try rw [hBX]
     have z1 := cell_of_blkP hcv (j := 1) (u := .slice px XN cx) rfl
     have z2 := cell_of_blkP hcv (j := 2) (u := .slice py YN cy) rfl
     have HBD : Hid (Below w.heap.size w w5.drew) := hbx.drew
     clear hbx hcv hw5 x0 x1 x2 hl0 hBX
     go_region_held3 (fun w' => w'.cell? ⟨BX, 1, none⟩ = some (.slice px XN cx) ∧ w'.cell? ⟨BX, 2, none⟩ = some (.slice py YN cy) ∧ Hid (Below w.heap.size w w')) (first | exact sz2_keep (by assumption) hb | exact ⟨z1, z2, HBD⟩ | go_keep) (first | (go_at_call 61; refine (KY.out _ (bl2_of (by assumption))).mono ?_; rintro e w' ⟨rfl, hb⟩))
     go_wp2_with fail
     go_roundg (MN - (i + 1))
     case measure => omega
     case rel =>
      refine ⟨i + 1, K + (XN + Y), by go_num, by omega, rfl, by go_num, by have h1 := HTK.out; have h2 := HK.out; omega, ?_⟩
      have h9 := bl2_of (by assumption)
      exact Lib.hid h9
    ·obtain rfl : i = MN := by omega
     have hfull : s.methods.take i = s.methods := List.take_of_length_le (by rw [HMN.out]; exact Nat.le_refl _)
     rw [hfull, HR.out] at hK
     clear hfull
     go_wp2_with fail
     go_roundg (N - (j + 1))
     case measure => omega
     case rel => exact ⟨j + 1, K, by go_num, by omega, rfl, rfl, by have h1 := HTK.out; have h2 := HM.out; have h3 := HM1.out; omega, HBQ⟩
  ·obtain rfl : j = N := by omega
   have hfull : cs.take j = cs := List.take_of_length_le (by rw [HN.out]; exact Nat.le_refl _)
   rw [hfull, ← HSUM.out] at hM
   subst hM
   clear hfull
   go_wp2_with fail
   go_ret
   exact ⟨rfl, HB.out⟩
end Go.Proofs.YtdckddkalgnlpaaGreatDoor
namespace Go.Proofs.YtdckddkalgnlpaaGreatDoor
open Go.RowKit Go.Maps
theorem take_grow {α : Type} {l1 l2 : List α} {j : Nat} {x : α} (h : l1.take j = l2.take j) (h1 : l1[j]? = some x) (h2 : l2[j]? = some x) : l1.take (j + 1) = l2.take (j + 1) := by
 rw [List.take_add_one, List.take_add_one, h, h1, h2]
end Go.Proofs.YtdckddkalgnlpaaGreatDoor
namespace Go.Proofs.YtdckddkalgnlpaaGreatDoor
open Go.RowKit Go.Maps
theorem list_ne {a b : ByteArray} (h : ¬ a = b) : ¬ a.toList = b.toList := by
 intro e
 rw [Lib.toList_data, Lib.toList_data] at e
 apply h
 cases a; cases b
 congr 1
 exact Array.toList_inj.1 e
end Go.Proofs.YtdckddkalgnlpaaGreatDoor
namespace Go.Proofs.YtdckddkalgnlpaaGreatDoor
open Go.RowKit Go.Maps
def ReqEC (d : Nat) : Prop := ∀ (x y : Tr.E) (v1 v2 : Value) (W : World), x.deep ≤ d → SlE W v1 x.args → SlE W v2 y.args →
 Calls Tryz.prog 15 #[exprV x v1, exprV y v2] W fun r w' => r = .returned (.bool (Sy.sameE x y)) ∧ Below W.heap.size W w'
set_option maxRecDepth 100000 in
set_option maxHeartbeats 4000000 in
theorem refSameEs_of {d : Nat} (hC : ReqEC d) (l1 l2 : List Tr.E) (p1 : Option Addr) (N1 c1 : Nat) (p2 : Option Addr) (N2 c2 : Nat) (w : World) (hd : Tr.E.deep.deeps l1 ≤ d) (hN1 : l1.length = N1) (hN2 : l2.length = N2) (h1 : SlE w (.slice p1 N1 c1) l1) (h2 : SlE w (.slice p2 N2 c2) l2) :
 Calls Tryz.prog 37 #[.slice p1 N1 c1, .slice p2 N2 c2] w fun r w' => r = .returned (.bool (Sy.sameEs l1 l2)) ∧ Below w.heap.size w w' := by
 have hn1 : N1 ≤ 9223372036854775807 := by
  have := h1.len
  rw [hN1] at this
  unfold maxLen at this
  exact this
 have hn2 : N2 ≤ 9223372036854775807 := by
  have := h2.len
  rw [hN2] at this
  unfold maxLen at this
  exact this
 have HC := Lib.hid hC
 have HD := Lib.hid hd
 have HN1 := Lib.hid hN1
 have HN2 := Lib.hid hN2
 have H1 := Lib.hid h1
 have H2 := Lib.hid h2
 clear hC hd hN1 hN2 h1 h2
 by_cases hne : N1 = N2
 ·subst hne
  go_enter Tryz.func37, Tryz.ntmps37
  go_wp2_with fail
  go_loopg [5] N1 (fun g s17 wr => ∃ j : Nat, s17 = .int .i64 j ∧ j ≤ N1 ∧ g = N1 - j ∧ Hid (l1.take j = l2.take j) ∧ Hid (Below w.heap.size w wr))
  case atStart => exact ⟨0, rfl, Nat.zero_le _, rfl, rfl, Below.refl _ _⟩
  case round =>
   obtain ⟨j, rfl, hj, rfl, HT, HB⟩ := hrel
   by_cases hlt : j < N1
   ·obtain ⟨x, hx⟩ : ∃ x, l1[j]? = some x := ⟨_, List.getElem?_eq_getElem (by rw [HN1.out]; exact hlt)⟩
    obtain ⟨y, hy⟩ : ∃ x, l2[j]? = some x := ⟨_, List.getElem?_eq_getElem (by rw [HN2.out]; exact hlt)⟩
    obtain ⟨b1, o1, a1, rfl, _, hc1, _, hsl1⟩ := H1.out.get hx
    obtain ⟨b2, o2, a2, rfl, _, hc2, _, hsl2⟩ := H2.out.get hy
    obtain ⟨q1, k1, rfl, _⟩ := hsl1.form
    obtain ⟨q2, k2, rfl, _⟩ := hsl2.form
    obtain ⟨A1, hA1⟩ : ∃ q, x.args.length = q := ⟨_, rfl⟩
    obtain ⟨A2, hA2⟩ : ∃ q, y.args.length = q := ⟨_, rfl⟩
    rw [hA1] at hsl1 hc1
    rw [hA2] at hsl2 hc2
    clear hA1 hA2
    obtain ⟨x0, x1, x2, x3, x4, x5⟩ := hc1.keep HB.out
    obtain ⟨y0, y1, y2, y3, y4, y5⟩ := hc2.keep HB.out
    have hb5 : Below w.heap.size w wr.drew := HB.out.drew
    have hcall := HC.out x y _ _ wr.drew (Nat.le_trans (Tr.E.deeps_get l1 j x hx) HD.out) (hsl1.keep hb5) (hsl2.keep hb5)
    unfold exprV at hcall
    have HB5 := Lib.hid hb5
    have HX := Lib.hid hx
    have HY := Lib.hid hy
    have b3 : (j : Int) < (N1 : Int) := by omega
    have b5 : (0 : Int) ≤ (j : Int) := by omega
    have hl1 := cell_lt' x0
    have hl2 := cell_lt' y0
    obtain ⟨S, hSx⟩ : ∃ q, Sy.sameE x y = q := ⟨_, rfl⟩
    rw [hSx] at hcall
    have HSX := Lib.hid hSx
    have HCALL := Lib.hid hcall
    clear hx hy hc1 hc2 hsl1 hsl2 hb5 hcall hSx
    cases S
    ·go_wp2_with fail
     go_still_tail 8, (by kernel_rfl)
     change wpList _ _ _ _ _ wr.drew
     obtain ⟨w5, hw5⟩ : ∃ q, q = wr.drew := ⟨_, rfl⟩
     rw [← hw5] at HCALL HB5 ⊢
     clear hw5 x0 x1 x2 x3 x4 x5 y0 y1 y2 y3 y4 y5 hl1 hl2
     go_wp2_with fail
     refine HCALL.out.mono ?_
     rintro e' w6 ⟨rfl, hb6⟩
     have HB6 := Lib.hid (HB5.out.trans (hb6.mono HB5.out.size))
     clear hb6
     go_wp2_with fail
     go_ret
     refine ⟨?_, HB6.out⟩
     rw [show Sy.sameEs l1 l2 = false by
      rw [Bool.eq_false_iff]
      intro h
      rw [Sy.sameEs_iff] at h
      have h3 := HX.out
      rw [h, HY.out] at h3
      have h4 := HSX.out
      rw [Option.some.inj h3, (Sy.sameE_iff x x).2 rfl] at h4
      cases h4]
     rfl
    ·go_wp2_with fail
     go_still_tail 8, (by kernel_rfl)
     change wpList _ _ _ _ _ wr.drew
     obtain ⟨w5, hw5⟩ : ∃ q, q = wr.drew := ⟨_, rfl⟩
     rw [← hw5] at HCALL HB5 ⊢
     clear hw5 x0 x1 x2 x3 x4 x5 y0 y1 y2 y3 y4 y5 hl1 hl2
     go_wp2_with fail
     refine HCALL.out.mono ?_
     rintro e' w6 ⟨rfl, hb6⟩
     have HB6 := Lib.hid (HB5.out.trans (hb6.mono HB5.out.size))
     clear hb6
     go_wp2_with fail
     go_roundg (N1 - (j + 1))
     case measure => omega
     case rel => exact ⟨j + 1, by go_num, by omega, rfl, take_grow HT.out HX.out (by rw [HY.out, (Sy.sameE_iff x y).1 HSX.out]), HB6⟩
   ·obtain rfl : j = N1 := by omega
    go_wp2_with fail
    go_ret
    refine ⟨?_, HB.out⟩
    rw [(Sy.sameEs_iff l1 l2).2 (by have h := HT.out; rw [List.take_of_length_le (by rw [HN1.out]; exact Nat.le_refl _), List.take_of_length_le (by rw [HN2.out]; exact Nat.le_refl _)] at h; exact h)]
    rfl
 ·have hf : Sy.sameEs l1 l2 = false := by
   rw [Bool.eq_false_iff]
   intro h
   rw [Sy.sameEs_iff] at h
   exact hne (by rw [← HN1.out, ← HN2.out, h])
  rw [hf]
  clear hf
  have hne2 : ¬ (N1 : Int) = (N2 : Int) := by omega
  go_enter Tryz.func37, Tryz.ntmps37
  go_wp2_with fail
  go_ret
  exact ⟨rfl, Below.refl _ _⟩
end Go.Proofs.YtdckddkalgnlpaaGreatDoor
namespace Go.Proofs.YtdckddkalgnlpaaGreatDoor
open Go.RowKit Go.Maps
set_option maxRecDepth 100000 in
set_option maxHeartbeats 4000000 in
theorem refSameExpr_any : ∀ d : Nat, ReqEC d := by
 intro d
 induction d with
 | zero => intro x y v1 v2 W hd; have := x.deep_pos; omega
 | succ d ih =>
   intro x y v1 v2 w hd h1 h2
   have hde := E_deep_eq x
   obtain ⟨k, o, i, nm, a, l⟩ := x
   obtain ⟨k', o', i', nm', a', l'⟩ := y
   have h1 : SlE w v1 l := h1
   have h2 : SlE w v2 l' := h2
   have hde : (Tr.E.mk k o i nm a l).deep = 1 + Tr.E.deep.deeps l := hde
   obtain ⟨p1, c1, rfl, _⟩ := h1.form
   obtain ⟨p2, c2, rfl, _⟩ := h2.form
   obtain ⟨N1, hN1⟩ : ∃ q, l.length = q := ⟨_, rfl⟩
   obtain ⟨N2, hN2⟩ : ∃ q, l'.length = q := ⟨_, rfl⟩
   rw [hN1] at h1 ⊢
   rw [hN2] at h2 ⊢
   have hb1 := below_box w (.cells #[.int .i64 k, .int .i64 o, .int .i64 i, .string nm, .bool a, .slice p1 N1 c1] 33)
   have hb2 := hb1.alloc hb1.size (.cells #[.int .i64 k', .int .i64 o', .int .i64 i', .string nm', .bool a', .slice p2 N2 c2] 33)
   obtain ⟨w2, hw2⟩ : ∃ q, q = (w.alloc (.cells #[.int .i64 k, .int .i64 o, .int .i64 i, .string nm, .bool a, .slice p1 N1 c1] 33)).alloc (.cells #[.int .i64 k', .int .i64 o', .int .i64 i', .string nm', .bool a', .slice p2 N2 c2] 33) := ⟨_, rfl⟩
   have HB2 : Hid (Below w.heap.size w w2) := by rw [hw2]; exact hb2
   have hcall := refSameEs_of ih l l' p1 N1 c1 p2 N2 c2 w2 (by omega) hN1 hN2 (h1.keep HB2.out) (h2.keep HB2.out)
   have HCALL := Lib.hid hcall
   have HW2 := Lib.hid hw2
   unfold exprV
   simp only [Tr.E.kind, Tr.E.op, Tr.E.int, Tr.E.name, Tr.E.at_]
   clear hde h1 h2 hN1 hN2 hb1 hb2 hw2 hcall hd ih
   by_cases hk : k = k'
   ·subst hk
    by_cases ho : o = o'
    ·subst ho
     by_cases hi : i = i'
     ·subst hi
      by_cases hn : nm = nm'
      ·subst hn
       by_cases ha : a = a'
       ·subst ha
        go_enter Tryz.func15, Tryz.ntmps15
        go_wp2_with fail
        rw [← HW2.out]
        refine HCALL.out.mono ?_
        rintro e' w3 ⟨rfl, hb3⟩
        have HB3 := Lib.hid (HB2.out.trans (hb3.mono HB2.out.size))
        clear hb3 HW2
        go_wp2_with fail
        go_ret
        exact ⟨by rw [Sy.sameE]; simp, HB3.out⟩
       ·have hf : Sy.sameE (.mk k o i nm a l) (.mk k o i nm a' l') = false := by rw [Sy.sameE]; simp [ha]
        rw [hf]
        clear hf
        go_enter Tryz.func15, Tryz.ntmps15
        go_wp2_with fail
        rw [← HW2.out]
        go_ret
        exact ⟨rfl, HB2.out⟩
      ·have hf : Sy.sameE (.mk k o i nm a l) (.mk k o i nm' a' l') = false := by rw [Sy.sameE]; simp [hn]
       have hn2 := list_ne hn
       rw [hf]
       clear hf
       go_enter Tryz.func15, Tryz.ntmps15
       go_wp2_with fail
       rw [← HW2.out]
       go_ret
       exact ⟨rfl, HB2.out⟩
     ·have hf : Sy.sameE (.mk k o i nm a l) (.mk k o i' nm' a' l') = false := by rw [Sy.sameE]; simp [hi]
      rw [hf]
      clear hf
      go_enter Tryz.func15, Tryz.ntmps15
      go_wp2_with fail
      rw [← HW2.out]
      go_ret
      exact ⟨rfl, HB2.out⟩
    ·have hf : Sy.sameE (.mk k o i nm a l) (.mk k o' i' nm' a' l') = false := by rw [Sy.sameE]; simp [ho]
     rw [hf]
     clear hf
     go_enter Tryz.func15, Tryz.ntmps15
     go_wp2_with fail
     rw [← HW2.out]
     go_ret
     exact ⟨rfl, HB2.out⟩
   ·have hf : Sy.sameE (.mk k o i nm a l) (.mk k' o' i' nm' a' l') = false := by rw [Sy.sameE]; simp [hk]
    rw [hf]
    clear hf
    go_enter Tryz.func15, Tryz.ntmps15
    go_wp2_with fail
    rw [← HW2.out]
    go_ret
    exact ⟨rfl, HB2.out⟩
end Go.Proofs.YtdckddkalgnlpaaGreatDoor
namespace Go.Proofs.YtdckddkalgnlpaaGreatDoor
open Go.RowKit Go.Maps
set_option maxRecDepth 100000 in
set_option maxHeartbeats 4000000 in
theorem refNames_any (l1 l2 : List ByteArray) (p1 : Option Addr) (N1 c1 : Nat) (p2 : Option Addr) (N2 c2 : Nat) (w : World) (hN1 : l1.length = N1) (hN2 : l2.length = N2) (h1 : SlStr w (.slice p1 N1 c1) l1) (h2 : SlStr w (.slice p2 N2 c2) l2) :
 Calls Tryz.prog 30 #[.slice p1 N1 c1, .slice p2 N2 c2] w fun r w' => r = .returned (.bool (decide (l1 = l2))) ∧ Below w.heap.size w w' := by
 have hn1 : N1 ≤ 9223372036854775807 := by
  have := h1.len
  rw [hN1] at this
  unfold maxLen at this
  exact this
 have hn2 : N2 ≤ 9223372036854775807 := by
  have := h2.len
  rw [hN2] at this
  unfold maxLen at this
  exact this
 have HN1 := Lib.hid hN1
 have HN2 := Lib.hid hN2
 have H1 := Lib.hid h1
 have H2 := Lib.hid h2
 clear hN1 hN2 h1 h2
 by_cases hne : N1 = N2
 ·subst hne
  go_enter Tryz.func30, Tryz.ntmps30
  go_wp2_with fail
  go_loopg [5] N1 (fun g s5 wr => ∃ j : Nat, s5 = .int .i64 j ∧ j ≤ N1 ∧ g = N1 - j ∧ Hid (l1.take j = l2.take j) ∧ Hid (Below w.heap.size w wr))
  case atStart => exact ⟨0, rfl, Nat.zero_le _, rfl, rfl, Below.refl _ _⟩
  case round =>
   obtain ⟨j, rfl, hj, rfl, HT, HB⟩ := hrel
   by_cases hlt : j < N1
   ·obtain ⟨x, hx⟩ : ∃ x, l1[j]? = some x := ⟨_, List.getElem?_eq_getElem (by rw [HN1.out]; exact hlt)⟩
    obtain ⟨y, hy⟩ : ∃ x, l2[j]? = some x := ⟨_, List.getElem?_eq_getElem (by rw [HN2.out]; exact hlt)⟩
    obtain ⟨b1, o1, rfl, _, hc1⟩ := H1.out.get hx
    obtain ⟨b2, o2, rfl, _, hc2⟩ := H2.out.get hy
    have x0 := cell_keep' HB.out hc1
    have y0 := cell_keep' HB.out hc2
    have HX := Lib.hid hx
    have HY := Lib.hid hy
    have HBD : Hid (∀ q, Below w.heap.size w (wr.drewN q)) := fun q => below_drewN HB.out q
    have b3 : (j : Int) < (N1 : Int) := by omega
    have b5 : (0 : Int) ≤ (j : Int) := by omega
    clear hx hy hc1 hc2
    by_cases hxy : x = y
    ·subst hxy
     go_wp2_with fail
     go_quiet (fail)
     go_wp2_with fail
     go_roundg (N1 - (j + 1))
     case measure => omega
     case rel => exact ⟨j + 1, by go_num, by omega, rfl, take_grow HT.out HX.out HY.out, HBD.out _⟩
    ·have hl : (x.toList == y.toList) = false := beq_eq_false_iff_ne.2 (list_ne hxy)
     go_wp2_with fail
     go_quiet (fail)
     go_wp2_with fail
     go_ret
     refine ⟨?_, HBD.out _⟩
     rw [show decide (l1 = l2) = false by
      rw [decide_eq_false_iff_not]
      intro h
      have h3 := HX.out
      rw [h, HY.out] at h3
      exact hxy (Option.some.inj h3).symm]
     rfl
   ·obtain rfl : j = N1 := by omega
    go_wp2_with fail
    go_ret
    refine ⟨?_, HB.out⟩
    rw [show decide (l1 = l2) = true by
     rw [decide_eq_true_iff]
     have h := HT.out
     rw [List.take_of_length_le (by rw [HN1.out]; exact Nat.le_refl _), List.take_of_length_le (by rw [HN2.out]; exact Nat.le_refl _)] at h
     exact h]
    rfl
 ·have hf : decide (l1 = l2) = false := by
   rw [decide_eq_false_iff_not]
   intro h
   exact hne (by rw [← HN1.out, ← HN2.out, h])
  rw [hf]
  clear hf
  have hne2 : ¬ (N1 : Int) = (N2 : Int) := by omega
  go_enter Tryz.func30, Tryz.ntmps30
  go_wp2_with fail
  go_ret
  exact ⟨rfl, Below.refl _ _⟩
end Go.Proofs.YtdckddkalgnlpaaGreatDoor
namespace Go.Proofs.YtdckddkalgnlpaaGreatDoor
open Go.RowKit Go.Maps
set_option maxRecDepth 100000 in
set_option maxHeartbeats 4000000 in
theorem refSymbol_any (o : Nat) (ho : o ≤ 12) (w : World) :
 Calls Tryz.prog 124 #[.int .i64 o] w fun r w' => r = .returned (.string ⟨(Sy.sym o).toArray⟩) ∧ Below w.heap.size w w' := by
 have hb := below_box w (.cells #[.string ⟨#[43]⟩, .string ⟨#[45]⟩, .string ⟨#[42]⟩, .string ⟨#[47]⟩, .string ⟨#[37]⟩, .string ⟨#[61, 61]⟩, .string ⟨#[33, 61]⟩, .string ⟨#[60]⟩, .string ⟨#[60, 61]⟩, .string ⟨#[62]⟩, .string ⟨#[62, 61]⟩, .string ⟨#[97, 110, 100]⟩, .string ⟨#[111, 114]⟩] 9)
 match o, ho with
 | 0, _ =>
   go_enter Tryz.func124, Tryz.ntmps124
   go_wp2_with fail
   go_ret
   exact ⟨rfl, hb⟩
 | 1, _ =>
   go_enter Tryz.func124, Tryz.ntmps124
   go_wp2_with fail
   go_ret
   exact ⟨rfl, hb⟩
 | 2, _ =>
   go_enter Tryz.func124, Tryz.ntmps124
   go_wp2_with fail
   go_ret
   exact ⟨rfl, hb⟩
 | 3, _ =>
   go_enter Tryz.func124, Tryz.ntmps124
   go_wp2_with fail
   go_ret
   exact ⟨rfl, hb⟩
 | 4, _ =>
   go_enter Tryz.func124, Tryz.ntmps124
   go_wp2_with fail
   go_ret
   exact ⟨rfl, hb⟩
 | 5, _ =>
   go_enter Tryz.func124, Tryz.ntmps124
   go_wp2_with fail
   go_ret
   exact ⟨rfl, hb⟩
 | 6, _ =>
   go_enter Tryz.func124, Tryz.ntmps124
   go_wp2_with fail
   go_ret
   exact ⟨rfl, hb⟩
 | 7, _ =>
   go_enter Tryz.func124, Tryz.ntmps124
   go_wp2_with fail
   go_ret
   exact ⟨rfl, hb⟩
 | 8, _ =>
   go_enter Tryz.func124, Tryz.ntmps124
   go_wp2_with fail
   go_ret
   exact ⟨rfl, hb⟩
 | 9, _ =>
   go_enter Tryz.func124, Tryz.ntmps124
   go_wp2_with fail
   go_ret
   exact ⟨rfl, hb⟩
 | 10, _ =>
   go_enter Tryz.func124, Tryz.ntmps124
   go_wp2_with fail
   go_ret
   exact ⟨rfl, hb⟩
 | 11, _ =>
   go_enter Tryz.func124, Tryz.ntmps124
   go_wp2_with fail
   go_ret
   exact ⟨rfl, hb⟩
 | 12, _ =>
   go_enter Tryz.func124, Tryz.ntmps124
   go_wp2_with fail
   go_ret
   exact ⟨rfl, hb⟩
end Go.Proofs.YtdckddkalgnlpaaGreatDoor
