/-
  Several texts in one: SyExprA, SyList, SyBin, SyPlain.
-/
import Derived.Test.YtdckddkalgnlpaaGreatDoorV5
import Derived.Deep.RegionHeld3
import Derived.Deep.DeepCutAuto
import Derived.StillTailTactics
import Derived.Lib.ItoaNum
import Derived.Deep.QuietTactic
import Derived.BigQuiet
namespace Go.Proofs.YtdckddkalgnlpaaGreatDoor
open Go.RowKit
theorem decDigits_dec : ∀ n, Lib.decDigits n = dec n := by
 intro n
 induction n using Nat.strongRecOn with
 | ind n ih =>
   by_cases h : n < 10
   ·rw [Lib.decDigits, dif_pos h, dec_small h]
    unfold dig
    rw [Nat.mod_eq_of_lt h]
   ·rw [Lib.decDigits, dif_neg h, dec_big h, ih (n / 10) (by omega)]
    rfl
theorem fmtInt_any (n : Int) (w : World) (hT : Lib.TabIs Tryz.prog w "internal/strconv.uint64pow10" .u64 Lib.pow10Tab) (h0 : 0 ≤ n) (h1 : n ≤ 2305843009213693951) :
 Calls Tryz.prog 142 #[.int .i64 n, .int .i64 10] w fun e w' => e = .returned (.string ⟨(dec n.toNat).toArray⟩) ∧ Below w.heap.size w w' := by
 refine (Tryz.strconv_FormatInt_10 n (by omega) (by omega) w hT).mono ?_
 rintro e w' ⟨rfl, k, os, rfl⟩
 refine ⟨?_, ⟨rfl, rfl, rfl, by simp [Go.Sort.grow, World.drewN], fun k hk => Go.Sort.heap_grow_old _ _ hk⟩⟩
 unfold Lib.itoa
 rw [if_neg (by omega), decDigits_dec]
theorem Pk.of_below {B b : Nat} {w w' : World} (h : Below w.heap.size w w') (hB : B ≤ w.heap.size) : Pk B b w w' :=
 ⟨h.mono hB, fun k _ hk _ _ => (h.block k (Array.getElem?_eq_some_iff.1 hk).1).trans hk⟩
theorem PrIn.below {w0 : World} {B b : Nat} {l : List UInt8} {deep : Int} {w w' : World} (h : PrIn w0 B b l deep w) (hb : Below w.heap.size w w') : PrIn w0 B b l deep w' :=
 h.next (h.st.next hb) (Pk.of_below hb h.leB)
def ExprC (w0 : World) (d : Nat) : Prop := ∀ (e : Tr.E) (p : Option Addr) (N c B b : Nat) (l : List UInt8) (deep : Int) (w : World) (req : Nat), e.deep ≤ d → Tr.validE e = true → e.args.length = N → SlE w0 (.slice p N c) e.args → PrIn w0 B b l deep w →
 l.length + (Sy.par req (Sy.level e, Sy.text e)).length ≤ 140737488355328 →
 Calls Tryz.prog 44 #[.pointer (some ⟨b, 0, none⟩), exprV e (.slice p N c), .int .i64 req] w (PrPost B b l (Sy.par req (Sy.level e, Sy.text e)) deep w)
def exprCells (e : Tr.E) (a : Value) : Array Value := #[.int .i64 e.kind, .int .i64 e.op, .int .i64 e.int, .string e.name, .bool e.at_, a]
set_option maxRecDepth 100000 in
set_option maxHeartbeats 4000000 in
theorem prefix_any {w0 : World} {d : Nat} (hx : ExprC w0 d) (e x : Tr.E) (hx0 : e.args[0]? = some x) (hd : x.deep ≤ d) (hv : Tr.validE x = true) (p : Option Addr) (N c : Nat) (hS : SlE w0 (.slice p N c) e.args) (s : ByteArray) (req pb eb B b : Nat) (l : List UInt8) (deep : Int) (w : World)
 (hI : PrIn w0 B b l deep w) (hpb : w.heap[pb]? = some (.cells #[.pointer (some ⟨b, 0, none⟩)] 81 (0, 0))) (heb : w.heap[eb]? = some (.cells (exprCells e (.slice p N c)) 33 (0, 0))) (hpbb : pb ≠ b) (hebb : eb ≠ b)
 (hlen : l.length + (s.data.toList ++ Sy.par req (Sy.level x, Sy.text x)).length ≤ 140737488355328) :
 Calls Tryz.prog 141 #[.string s, .int .i64 req, .pointer (some ⟨pb, 0, none⟩), .pointer (some ⟨eb, 0, none⟩)] w (PrPost B b l (s.data.toList ++ Sy.par req (Sy.level x, Sy.text x)) deep w) := by
 rw [List.length_append] at hlen
 have KW := Lib.hid (wr_any hI [s] 1 #[.string s] s.data.toList rfl rfl (by simp [flatB]) (by omega) (by decide))
 have cp := cell_of_blkP hpb (j := 0) (u := .pointer (some ⟨b, 0, none⟩)) rfl
 obtain ⟨b', o', aa, rfl, _, hc, hbd, hsl⟩ := hS.get hx0
 have hN : 1 ≤ N := by
  have h1 : 1 ≤ e.args.length := by
   obtain ⟨h2, _⟩ := List.getElem?_eq_some_iff.1 hx0
   exact h2
  obtain ⟨q1, c1, e1, _⟩ := hS.form
  injection e1 with _ e2 _
  omega
 obtain ⟨pa, ca, rfl, _⟩ := hsl.form
 obtain ⟨AN, hAN⟩ : ∃ q, x.args.length = q := ⟨_, rfl⟩
 rw [hAN] at hsl hc
 have HI := Lib.hid hI
 have HPB := Lib.hid hpb
 have HEB := Lib.hid heb
 have HC := Lib.hid hc
 have HX : Hid (∀ W l', PrIn w0 B b l' deep W → l'.length + (Sy.par req (Sy.level x, Sy.text x)).length ≤ 140737488355328 → Calls Tryz.prog 44 #[.pointer (some ⟨b, 0, none⟩), exprV x (.slice pa AN ca), .int .i64 req] W (PrPost B b l' (Sy.par req (Sy.level x, Sy.text x)) deep W)) :=
  fun W l' h1 h2 => hx x pa AN ca B b l' deep W req hd hv hAN hsl h1 h2
 have HLEN := Lib.hid hlen
 clear hI hpb heb hc hbd hsl hx hd hv hx0 hAN hS hlen
 go_enter Tryz.func141, Tryz.ntmps141
 go_wp2_with fail
 refine KW.out.mono ?_
 rintro e' w2 ⟨rfl, hs2, hk2⟩
 have HI2 := Lib.hid (HI.out.next hs2 hk2)
 have HK2 := Lib.hid hk2
 have cp2 := cell_of_blkP (hk2.box HPB.out hpbb (by decide)) (j := 0) (u := .pointer (some ⟨b, 0, none⟩)) rfl
 have ce2 := cell_of_blkP (hk2.box HEB.out hebb (by decide)) (j := 5) (u := .slice (some ⟨b', o', none⟩) N c) rfl
 obtain ⟨y0, y1, y2, y3, y4, y5⟩ := HC.out.keep HI2.out.base
 simp only [Nat.zero_mul, Nat.add_zero] at y0 y1 y2 y3 y4 y5
 have b3 : (0 : Int) < (N : Int) := by omega
 have b4 : 0 < N := hN
 have hl1 := cell_lt' ce2
 have hl2 := cell_lt' y0
 clear hs2 hk2 cp
 go_wp2_with fail
 go_still_tail 6, (by kernel_rfl)
 change wpList _ _ _ _ _ w2.drew
 have HI3 := Lib.hid HI2.out.drew
 have HK3 := Lib.hid HK2.out.drew
 obtain ⟨w3, hw3⟩ : ∃ q, q = w2.drew := ⟨_, rfl⟩
 rw [← hw3] at HI3 HK3 ⊢
 clear hw3 cp2 ce2 y0 y1 y2 y3 y4 y5 hl1 hl2
 have hcall := HX.out w3 _ HI3.out (by rw [List.length_append]; have := HLEN.out; omega)
 unfold exprV at hcall
 have HCALL := Lib.hid hcall
 clear hcall
 go_wp2_with fail
 refine HCALL.out.mono ?_
 rintro e' w4 ⟨rfl, hs4, hk4⟩
 have HS4 := Lib.hid hs4
 have HK4 := Lib.hid (HK3.out.trans hk4)
 clear hs4 hk4
 go_wp2_with fail
 go_end0
 exact ⟨rfl, by rw [← List.append_assoc]; exact HS4.out, HK4.out⟩
end Go.Proofs.YtdckddkalgnlpaaGreatDoor
namespace Go.Proofs.YtdckddkalgnlpaaGreatDoor
open Go.RowKit
namespace Sy
theorem commas_app : ∀ (a b : List Bytes), a ≠ [] → b ≠ [] → commas (a ++ b) = commas a ++ [44, 32] ++ commas b
 | [], _, h, _ => absurd rfl h
 | _, [], _, h => absurd rfl h
 | [x], y :: r, _, _ => by simp [commas]
 | x :: z :: a, y :: r, _, _ => by
   show commas (x :: z :: (a ++ y :: r)) = _
   rw [commas, commas, show z :: (a ++ y :: r) = (z :: a) ++ (y :: r) from rfl, commas_app (z :: a) (y :: r) (by simp) (by simp)]
   simp only [List.append_assoc]
theorem commas_snoc (l : List Bytes) (x : Bytes) (h : l ≠ []) : commas (l ++ [x]) = commas l ++ [44, 32] ++ x := by rw [commas_app l [x] h (by simp), commas]
theorem commas_take (l : List Bytes) (j : Nat) : (commas (l.take j)).length ≤ (commas l).length := by
 by_cases h1 : l.take j = []
 ·rw [h1, commas]; exact Nat.zero_le _
 ·by_cases h2 : l.drop j = []
  ·have h3 := List.take_append_drop j l
   rw [h2, List.append_nil] at h3
   rw [h3]; exact Nat.le_refl _
  ·have h3 := commas_app _ _ h1 h2
   rw [List.take_append_drop] at h3
   rw [h3, List.length_append, List.length_append]
   omega
theorem level_pos (e : Tr.E) : 1 ≤ level e := by
 obtain ⟨k, o, i, nm, a, l⟩ := e
 show 1 ≤ levelK k o a
 unfold levelK opLevel
 repeat' split
 all_goals omega
theorem par_one (e : Tr.E) : par 1 (level e, text e) = text e := by
 unfold par
 rw [if_neg]
 have := level_pos e
 simp only []
 omega
end Sy
set_option maxRecDepth 100000 in
set_option maxHeartbeats 8000000 in
theorem list_any {w0 : World} {d : Nat} (hx : ExprC w0 d) (ls : List Tr.E) (hd : ∀ x ∈ ls, x.deep ≤ d) (hv : ∀ x ∈ ls, Tr.validE x = true) (p : Option Addr) (N c : Nat) (hN : ls.length = N) (hS : SlE w0 (.slice p N c) ls) (B b : Nat) (l : List UInt8) (deep : Int) (w : World)
 (hI : PrIn w0 B b l deep w) (hlen : l.length + (1 + (Sy.commas (ls.map Sy.text)).length + 1) ≤ 140737488355328) :
 Calls Tryz.prog 143 #[.pointer (some ⟨b, 0, none⟩), .slice p N c] w (PrPost B b l ([40] ++ Sy.commas (ls.map Sy.text) ++ [41]) deep w) := by
 have KW := Lib.hid (wr_any hI [⟨#[40]⟩] 1 #[.string ⟨#[40]⟩] [40] rfl rfl (by simp [flatB]) (by simp; omega) (by decide))
 have HI := Lib.hid hI
 have HS := Lib.hid hS
 have HN := Lib.hid hN
 have HD := Lib.hid hd
 have HV := Lib.hid hv
 have HX := Lib.hid hx
 have HLEN := Lib.hid hlen
 have hn6 : N ≤ 9223372036854775807 := by
  have := hS.len
  rw [hN] at this
  unfold maxLen at this
  omega
 clear hI hS hN hd hv hx hlen
 go_enter Tryz.func143, Tryz.ntmps143
 go_wp2_with fail
 refine KW.out.mono ?_
 rintro e' w2 ⟨rfl, hs2, hk2⟩
 have HI2 := Lib.hid (HI.out.next hs2 hk2)
 have HK2 := Lib.hid hk2
 clear hs2 hk2
 go_wp2_with fail
 go_loopg [4, 5, 11] N (fun g s4 s5 s11 wr => ∃ j : Nat, s11 = .int .i64 j ∧ j ≤ N ∧ g = N - j ∧ Hid (PrIn w0 B b (l ++ [40] ++ Sy.commas ((ls.take j).map Sy.text)) deep wr) ∧ Hid (Pk B b w wr))
 case atStart => exact ⟨0, rfl, Nat.zero_le _, rfl, by show PrIn _ _ _ _ _ _; rw [List.take_zero]; simpa [Sy.commas] using HI2.out, HK2⟩
 case round =>
  obtain ⟨j, rfl, hj, rfl, HST, HK⟩ := hrel
  clear HI2 HK2
  by_cases hlt : j < N
  ·obtain ⟨x, hx⟩ : ∃ x, ls[j]? = some x := ⟨_, List.getElem?_eq_getElem (by rw [HN.out]; exact hlt)⟩
   obtain ⟨b', o', aa, rfl, _, hc, hbd, hsl⟩ := HS.out.get hx
   obtain ⟨y0, y1, y2, y3, y4, y5⟩ := hc.keep HST.out.base
   obtain ⟨pa, ca, rfl, _⟩ := hsl.form
   obtain ⟨AN, hAN⟩ : ∃ q, x.args.length = q := ⟨_, rfl⟩
   rw [hAN] at hsl y5
   have hm := List.mem_of_getElem? hx
   have hfin : ls.take (j + 1) = ls.take j ++ [x] := by rw [List.take_add_one, hx]; rfl
   have HFIN := Lib.hid hfin
   have hcl := Sy.commas_take (ls.map Sy.text) (j + 1)
   rw [← List.map_take, hfin, List.map_append, List.map_singleton] at hcl
   have HCL := Lib.hid hcl
   have HXX : Hid (∀ W l', PrIn w0 B b l' deep W → l'.length + (Sy.text x).length ≤ 140737488355328 → Calls Tryz.prog 44 #[.pointer (some ⟨b, 0, none⟩), exprV x (.slice pa AN ca), .int .i64 1] W (PrPost B b l' (Sy.text x) deep W)) := by
    intro W l' h1 h2
    have := HX.out x pa AN ca B b l' deep W 1 (HD.out x hm) (HV.out x hm) hAN hsl h1 (by rw [Sy.par_one]; exact h2)
    rw [Sy.par_one] at this
    exact this
   have hb4 := below_box wr (.cells #[.int .i64 x.kind, .int .i64 x.op, .int .i64 x.int, .string x.name, .bool x.at_, .slice pa AN ca] 33)
   have hbx := (MapKept.heap_alloc wr (.cells #[.int .i64 x.kind, .int .i64 x.op, .int .i64 x.int, .string x.name, .bool x.at_, .slice pa AN ca] 33)).1
   have hi4 := HST.out.box (.cells #[.int .i64 x.kind, .int .i64 x.op, .int .i64 x.int, .string x.name, .bool x.at_, .slice pa AN ca] 33)
   have hk4 := HK.out.trans (HST.out.pk (.cells #[.int .i64 x.kind, .int .i64 x.op, .int .i64 x.int, .string x.name, .bool x.at_, .slice pa AN ca] 33))
   have hne := HST.out.ne
   obtain ⟨BX, hBX⟩ : ∃ q, wr.heap.size = q := ⟨_, rfl⟩
   obtain ⟨w4, hw4⟩ : ∃ q, q = wr.alloc (.cells #[.int .i64 x.kind, .int .i64 x.op, .int .i64 x.int, .string x.name, .bool x.at_, .slice pa AN ca] 33) := ⟨_, rfl⟩
   rw [← hw4] at hb4 hbx hi4 hk4
   rw [hBX] at hbx hne
   have HW4 := Lib.hid hw4
   have HBX := Lib.hid hBX
   have HBXC := Lib.hid hbx
   have HI4 := Lib.hid hi4
   have HK4 := Lib.hid hk4
   have HNE := Lib.hid hne
   have b3 : (j : Int) < (N : Int) := by omega
   have hl0 := cell_lt' y0
   clear hx hc hbd hsl hm hfin hcl hb4 hbx hi4 hk4 hw4 hBX hne hAN
   go_upto_if 17 with fail
   rw [← HW4.out, HBX.out]
   clear y0 y1 y2 y3 y4 y5 hl0 HW4 HBX
   by_cases hj0 : j = 0
   ·subst hj0
    have HKX := HK4
    have e0 := cell_of_blkP HBXC.out (j := 0) (u := .int .i64 x.kind) rfl
    have e1 := cell_of_blkP HBXC.out (j := 1) (u := .int .i64 x.op) rfl
    have e2 := cell_of_blkP HBXC.out (j := 2) (u := .int .i64 x.int) rfl
    have e3 := cell_of_blkP HBXC.out (j := 3) (u := .string x.name) rfl
    have e4 := cell_of_blkP HBXC.out (j := 4) (u := .bool x.at_) rfl
    have e5 := cell_of_blkP HBXC.out (j := 5) (u := .slice pa AN ca) rfl
    have hcall := HXX.out w4 _ HI4.out (by have h1 := HCL.out; have h2 := HLEN.out; simp only [List.take_zero, List.nil_append, List.map_nil, Sy.commas, List.append_nil, List.length_append, List.length_cons, List.length_nil] at h1 ⊢; omega)
    unfold exprV at hcall
    have HCALL := Lib.hid hcall
    clear hcall
    go_wp2_with fail
    refine HCALL.out.mono ?_
    rintro e' w6 ⟨rfl, hs6, hk6⟩
    have HI6 := Lib.hid (HI4.out.next hs6 hk6)
    have HK6 := Lib.hid (HKX.out.trans hk6)
    clear hs6 hk6 e0 e1 e2 e3 e4 e5
    go_wp2_with fail
    go_roundg (N - (0 + 1))
    case measure => omega
    case rel =>
     refine ⟨0 + 1, by go_num, by omega, rfl, ?_, HK6⟩
     have h1 := HI6.out
     rw [HFIN.out]
     simp only [List.take_zero, List.map_nil, Sy.commas, List.append_nil] at h1
     show PrIn _ _ _ _ _ _
     simpa [Sy.commas] using h1
   ·have hj1 : (0 : Int) < (j : Int) := by omega
    have hjt : (ls.take j).map Sy.text ≠ [] := by
     intro h0
     have h1 := congrArg List.length h0
     rw [List.length_map, List.length_take, HN.out] at h1
     simp at h1
     omega
    have HSN := Lib.hid (Sy.commas_snoc _ (Sy.text x) hjt)
    have KW5 := Lib.hid (wr_any HI4.out [⟨#[44, 32]⟩] 1 #[.string ⟨#[44, 32]⟩] [44, 32] rfl rfl (by simp [flatB]) (by have h1 := HCL.out; have h2 := HLEN.out; rw [HSN.out] at h1; simp only [List.length_append, List.length_cons, List.length_nil] at h1 ⊢; omega) (by decide))
    clear hjt
    go_wp2_with fail
    refine KW5.out.mono ?_
    rintro e' w5 ⟨rfl, hs5, hk5⟩
    have HI5 := Lib.hid (HI4.out.next hs5 hk5)
    have HKX := Lib.hid (HK4.out.trans hk5)
    have HBX5 := Lib.hid (hk5.box HBXC.out HNE.out (by decide))
    clear hs5 hk5 KW5
    have e0 := cell_of_blkP HBX5.out (j := 0) (u := .int .i64 x.kind) rfl
    have e1 := cell_of_blkP HBX5.out (j := 1) (u := .int .i64 x.op) rfl
    have e2 := cell_of_blkP HBX5.out (j := 2) (u := .int .i64 x.int) rfl
    have e3 := cell_of_blkP HBX5.out (j := 3) (u := .string x.name) rfl
    have e4 := cell_of_blkP HBX5.out (j := 4) (u := .bool x.at_) rfl
    have e5 := cell_of_blkP HBX5.out (j := 5) (u := .slice pa AN ca) rfl
    have hcall := HXX.out w5 _ HI5.out (by have h1 := HCL.out; have h2 := HLEN.out; rw [HSN.out] at h1; simp only [List.length_append, List.length_cons, List.length_nil] at h1 ⊢; omega)
    unfold exprV at hcall
    have HCALL := Lib.hid hcall
    clear hcall
    go_wp2_with fail
    refine HCALL.out.mono ?_
    rintro e' w6 ⟨rfl, hs6, hk6⟩
    have HI6 := Lib.hid (HI5.out.next hs6 hk6)
    have HK6 := Lib.hid (HKX.out.trans hk6)
    clear hs6 hk6 e0 e1 e2 e3 e4 e5
    go_wp2_with fail
    go_roundg (N - (j + 1))
    case measure => omega
    case rel =>
     refine ⟨j + 1, by go_num, by omega, rfl, ?_, HK6⟩
     have h1 := HI6.out
     rw [HFIN.out]
     rw [List.map_append, List.map_singleton, HSN.out]
     simp only [List.append_assoc] at h1 ⊢
     exact h1
  ·obtain rfl : j = N := by omega
   have hfull : ls.take j = ls := List.take_of_length_le (by rw [HN.out]; exact Nat.le_refl _)
   rw [hfull] at HST
   have KW9 := Lib.hid (wr_any HST.out [⟨#[41]⟩] 1 #[.string ⟨#[41]⟩] [41] rfl rfl (by simp [flatB]) (by have := HLEN.out; simp only [List.length_append, List.length_cons, List.length_nil]; omega) (by decide))
   clear hfull
   go_wp2_with fail
   refine KW9.out.mono ?_
   rintro e' w9 ⟨rfl, hs9, hk9⟩
   have HS9 := Lib.hid hs9
   have HK9 := Lib.hid (HK.out.trans hk9)
   clear hs9 hk9
   go_wp2_with fail
   go_end0
   exact ⟨rfl, by have h1 := HS9.out; simp only [List.append_assoc] at h1 ⊢; exact h1, HK9.out⟩
end Go.Proofs.YtdckddkalgnlpaaGreatDoor
namespace Go.Proofs.YtdckddkalgnlpaaGreatDoor
open Go.RowKit
theorem Sy.text_bin (o i : Int) (nm : ByteArray) (a : Bool) (x y : Tr.E) : Sy.text (.mk 10 o i nm a [x, y]) = Sy.par (if Sy.opLevel o = 4 then 5 else Sy.opLevel o) (Sy.level x, Sy.text x) ++ [32] ++ Sy.sym o ++ [32] ++ Sy.par (Sy.opLevel o + 1) (Sy.level y, Sy.text y) := by
 rw [Sy.text, Sy.texts, Sy.texts, Sy.texts]
 rfl
theorem Sy.opLevel_le (o : Int) : Sy.opLevel o ≤ 6 := by
 unfold Sy.opLevel
 repeat' split
 all_goals omega
set_option maxRecDepth 100000 in
set_option maxHeartbeats 8000000 in
theorem binary_any {w0 : World} {d : Nat} (hx : ExprC w0 d) (hE : PrEnv w0) (O : Nat) (hO : O ≤ 12) (i : Int) (nm : ByteArray) (a : Bool) (x y : Tr.E) (hdx : x.deep ≤ d) (hdy : y.deep ≤ d) (hvx : Tr.validE x = true) (hvy : Tr.validE y = true) (p : Option Addr) (c : Nat) (hS : SlE w0 (.slice p 2 c) [x, y]) (B b : Nat) (l : List UInt8) (deep : Int) (w : World)
 (hI : PrIn w0 B b l deep w) (hlen : l.length + (Sy.text (.mk 10 O i nm a [x, y])).length ≤ 140737488355328) :
 Calls Tryz.prog 144 #[.pointer (some ⟨b, 0, none⟩), exprV (.mk 10 O i nm a [x, y]) (.slice p 2 c)] w (PrPost B b l (Sy.text (.mk 10 O i nm a [x, y])) deep w) := by
 obtain ⟨b', o', ax, rfl, _, hcx, hbdx, hsx⟩ := hS.get (j := 0) (e := x) rfl
 obtain ⟨b2, o2, ay, e2, _, hcy, hbdy, hsy⟩ := hS.get (j := 1) (e := y) rfl
 obtain rfl : b' = b2 := by simp only [Option.some.injEq, Addr.mk.injEq] at e2; exact e2.1
 obtain rfl : o' = o2 := by simp only [Option.some.injEq, Addr.mk.injEq] at e2; exact e2.2.1
 clear e2
 obtain ⟨px, cx, rfl, _⟩ := hsx.form
 obtain ⟨XN, hXN⟩ : ∃ q, x.args.length = q := ⟨_, rfl⟩
 rw [hXN] at hsx hcx
 obtain ⟨py, cy, rfl, _⟩ := hsy.form
 obtain ⟨YN, hYN⟩ : ∃ q, y.args.length = q := ⟨_, rfl⟩
 rw [hYN] at hsy hcy
 rw [Sy.text_bin] at hlen ⊢
 obtain ⟨LQ, hLQ⟩ : ∃ q, (if Sy.opLevel O = 4 then 5 else Sy.opLevel O) = q := ⟨_, rfl⟩
 obtain ⟨TX, hTX⟩ : ∃ q, Sy.par LQ (Sy.level x, Sy.text x) = q := ⟨_, rfl⟩
 obtain ⟨TY, hTY⟩ : ∃ q, Sy.par (Sy.opLevel O + 1) (Sy.level y, Sy.text y) = q := ⟨_, rfl⟩
 rw [hLQ, hTX, hTY] at hlen ⊢
 have hll := Sy.opLevel_le O
 obtain ⟨k1, k2⟩ := hE.ops O hO
 obtain ⟨LV, hLV⟩ : ∃ q, Sy.opLevel (O : Int) = q := ⟨_, rfl⟩
 obtain ⟨SY, hSY⟩ : ∃ q, Sy.sym (O : Int) = q := ⟨_, rfl⟩
 rw [hLV] at hLQ hTY hll k2
 rw [hSY] at hlen k1 ⊢
 have HXX : Hid (∀ W l', PrIn w0 B b l' deep W → l'.length + TX.length ≤ 140737488355328 → Calls Tryz.prog 44 #[.pointer (some ⟨b, 0, none⟩), exprV x (.slice px XN cx), .int .i64 LQ] W (PrPost B b l' TX deep W)) := by
  intro W l' h1 h2
  have := hx x px XN cx B b l' deep W LQ hdx hvx hXN hsx h1 (by rw [hTX]; exact h2)
  rw [hTX] at this
  exact this
 have HYY : Hid (∀ W l', PrIn w0 B b l' deep W → l'.length + TY.length ≤ 140737488355328 → Calls Tryz.prog 44 #[.pointer (some ⟨b, 0, none⟩), exprV y (.slice py YN cy), .int .i64 ((LV : Int) + 1)] W (PrPost B b l' TY deep W)) := by
  intro W l' h1 h2
  have := hx y py YN cy B b l' deep W (LV + 1) hdy hvy hYN hsy h1 (by rw [hTY]; exact h2)
  rw [hTY] at this
  exact this
 have HI := Lib.hid hI
 have HCX := Lib.hid hcx
 have HCY := Lib.hid hcy
 have HLEN := Lib.hid hlen
 have HLQ := Lib.hid hLQ
 have k1 := cell_keep' hI.base k1
 have k2 := cell_keep' hI.base k2
 have hl9 := Nat.lt_of_lt_of_le hE.lt hI.base.size
 have hlt := hI.lt
 obtain ⟨w1, hw1⟩ : ∃ q, q = w.alloc (.cells #[.int .i64 10, .int .i64 O, .int .i64 i, .string nm, .bool a, .slice (some ⟨b', o', none⟩) 2 c] 33) := ⟨_, rfl⟩
 obtain ⟨w2, hw2⟩ : ∃ q, q = w1.alloc (.cells #[.string ⟨SY.toArray⟩, .int .i64 LV] 160) := ⟨_, rfl⟩
 have hs1 : w1.heap.size = w.heap.size + 1 := by rw [hw1]; exact World.size_alloc _ _
 have hc1 : w1.heap[w.heap.size]? = some (.cells #[.int .i64 10, .int .i64 O, .int .i64 i, .string nm, .bool a, .slice (some ⟨b', o', none⟩) 2 c] 33 (0, 0)) := by rw [hw1]; exact (MapKept.heap_alloc w _).1
 have hc2 : w2.heap[w1.heap.size]? = some (.cells #[.string ⟨SY.toArray⟩, .int .i64 LV] 160 (0, 0)) := by rw [hw2]; exact (MapKept.heap_alloc w1 _).1
 have hi1 : PrIn w0 B b l deep w1 := by rw [hw1]; exact hI.box _
 have hi2 : PrIn w0 B b l deep w2 := by rw [hw2]; exact hi1.box _
 have hk2 : Pk B b w w2 := by rw [hw2, hw1]; exact (hI.pk _).trans ((hI.box _).pk _)
 have hc1' : w2.heap[w.heap.size]? = some (.cells #[.int .i64 10, .int .i64 O, .int .i64 i, .string nm, .bool a, .slice (some ⟨b', o', none⟩) 2 c] 33 (0, 0)) := by
  have h1 := below_box w1 (.cells #[.string ⟨SY.toArray⟩, .int .i64 LV] 160)
  rw [← hw2] at h1
  exact (h1.block _ (by omega)).trans hc1
 rw [hs1] at hc2
 have HW2 : Hid (w2 = (w.alloc (.cells #[.int .i64 10, .int .i64 O, .int .i64 i, .string nm, .bool a, .slice (some ⟨b', o', none⟩) 2 c] 33)).alloc (.cells #[.string ⟨SY.toArray⟩, .int .i64 LV] 160)) := by show _ = _; rw [hw2, hw1]
 have HI2 := Lib.hid hi2
 have HK2 := Lib.hid hk2
 have HC1 := Lib.hid hc1'
 have HC2 := Lib.hid hc2
 have HNB : Hid (w.heap.size ≠ b ∧ w.heap.size + 1 ≠ b) := ⟨by omega, by omega⟩
 have b13 : (O : Int) < 13 := by omega
 have bw : IntKind.i64.wrap ((LV : Int) + 1) = (LV : Int) + 1 := IntWalk.i64_in _ (by omega)
 unfold exprV
 simp only [Tr.E.kind, Tr.E.op, Tr.E.int, Tr.E.name, Tr.E.at_]
 clear hI hcx hcy hbdx hbdy hsx hsy hlen hx hE hS hw1 hw2 hs1 hc1 hc2 hi1 hi2 hk2 hc1' hLQ hTX hTY hLV hSY hll hO hdx hdy hvx hvy hXN hYN
 go_enter Tryz.func144, Tryz.ntmps144
 go_wp2_with fail
 rw [← HW2.out]
 clear HW2 k1 k2 hl9 hlt
 have q1 := cell_of_blkP HC2.out (j := 1) (u := .int .i64 LV) rfl
 go_quiet (fail)
 obtain ⟨w3, hw3⟩ : ∃ q, q = w2.drewN nq := ⟨_, rfl⟩
 have hb3 : Below w2.heap.size w2 w3 := by rw [hw3]; exact ⟨rfl, rfl, rfl, Nat.le_refl _, fun _ _ => rfl⟩
 have HI3 := Lib.hid (HI2.out.below hb3)
 have HK3 := Lib.hid (HK2.out.trans (Pk.of_below hb3 HI2.out.leB))
 have HC13 := Lib.hid ((hb3.block _ (Array.getElem?_eq_some_iff.1 HC1.out).1).trans HC1.out)
 have HC23 := Lib.hid ((hb3.block _ (Array.getElem?_eq_some_iff.1 HC2.out).1).trans HC2.out)
 rw [← hw3]
 have q1 := cell_of_blkP HC23.out (j := 1) (u := .int .i64 LV) rfl
 clear hw3 hb3
 go_upto_if 18 with fail
 go_cut [5, 6] (fun s5 s6 wx => s5 = .int .i64 LQ ∧ s6 = .int .i64 ((LV : Int) + 1) ∧ wx = w3)
 case first =>
  by_cases h4 : LV = 4
  ·subst h4
   go_wp2_with fail
   go_meet
   exact ⟨by rw [← HLQ.out]; rfl, rfl, rfl⟩
  ·have h4b : ((LV : Int) == 4) = false := beq_eq_false_iff_ne.2 (by omega)
   have hq := HLQ.out
   rw [if_neg h4] at hq
   clear h4
   go_wp2_with fail
   go_meet
   exact ⟨by rw [hq], rfl, rfl⟩
 case rest =>
  obtain ⟨rfl, rfl, hwc⟩ := hcut
  rw [hwc]
  clear hwc q1
  have e5 := cell_of_blkP HC13.out (j := 5) (u := .slice (some ⟨b', o', none⟩) 2 c) rfl
  obtain ⟨y0, y1, y2, y3, y4, y5⟩ := HCX.out.keep HI3.out.base
  simp only [Nat.zero_mul, Nat.add_zero] at y0 y1 y2 y3 y4 y5
  have hl1 := cell_lt' e5
  have hl2 := cell_lt' y0
  have hcall := HXX.out w3 l HI3.out (by have := HLEN.out; simp only [List.length_append] at this; omega)
  unfold exprV at hcall
  have HCALL := Lib.hid hcall
  clear hcall
  go_wp2_with fail
  refine HCALL.out.mono ?_
  rintro e' w4 ⟨rfl, hs4, hk4⟩
  have HI4 := Lib.hid (HI3.out.next hs4 hk4)
  have HK4 := Lib.hid (HK3.out.trans hk4)
  have HC14 := Lib.hid (hk4.box HC13.out HNB.out.1 (by decide))
  have HC24 := Lib.hid (hk4.box HC23.out HNB.out.2 (by decide))
  have q0 := cell_of_blkP HC24.out (j := 0) (u := .string ⟨SY.toArray⟩) rfl
  have KW := Lib.hid (wr_any HI4.out [⟨#[32]⟩, ⟨SY.toArray⟩, ⟨#[32]⟩] 3 #[.string ⟨#[32]⟩, .string ⟨SY.toArray⟩, .string ⟨#[32]⟩] ([32] ++ SY ++ [32]) rfl rfl (by simp [flatB]) (by have := HLEN.out; simp only [List.length_append, List.length_cons, List.length_nil] at this ⊢; omega) (by decide))
  have hl3 := cell_lt' q0
  clear hs4 hk4 e5 y0 y1 y2 y3 y4 y5 hl1 hl2
  go_wp2_with fail
  refine KW.out.mono ?_
  rintro e' w5 ⟨rfl, hs5, hk5⟩
  have HI5 := Lib.hid (HI4.out.next hs5 hk5)
  have HK5 := Lib.hid (HK4.out.trans hk5)
  have e5 := cell_of_blkP (hk5.box HC14.out HNB.out.1 (by decide)) (j := 5) (u := .slice (some ⟨b', o', none⟩) 2 c) rfl
  obtain ⟨y0, y1, y2, y3, y4, y5⟩ := HCY.out.keep HI5.out.base
  simp only [Nat.one_mul] at y0 y1 y2 y3 y4 y5
  have hl1 := cell_lt' e5
  have hl2 := cell_lt' y0
  have hcall := HYY.out w5 _ HI5.out (by have := HLEN.out; simp only [List.length_append] at this ⊢; omega)
  unfold exprV at hcall
  have HCALL := Lib.hid hcall
  clear hcall hs5 hk5 q0 hl3
  go_wp2_with fail
  refine HCALL.out.mono ?_
  rintro e' w6 ⟨rfl, hs6, hk6⟩
  have HS6 := Lib.hid hs6
  have HK6 := Lib.hid (HK5.out.trans hk6)
  clear hs6 hk6
  go_wp2_with fail
  go_end0
  exact ⟨rfl, by have h1 := HS6.out; simp only [List.append_assoc] at h1 ⊢; exact h1, HK6.out⟩
end Go.Proofs.YtdckddkalgnlpaaGreatDoor
namespace Go.Proofs.YtdckddkalgnlpaaGreatDoor
open Go.RowKit
theorem okE_forms {k o i : Int} {nm : ByteArray} {a : Bool} {n : Nat} (h : Tr.okE k o i nm a n = true) :
 (k = 0 ∧ n = 0 ∧ 0 ≤ i ∧ i ≤ 2305843009213693951) ∨ (k = 1 ∧ n = 0) ∨ (k = 2 ∧ n = 0) ∨ (k = 3 ∧ n = 0) ∨ (k = 4 ∧ n = 1) ∨ (k = 5 ∧ (a = true → 0 < n)) ∨ (k = 6 ∧ n = 1) ∨ (k = 7 ∧ n = 1) ∨ (k = 8 ∧ n = 1) ∨ (k = 9 ∧ n = 1) ∨ (k = 10 ∧ n = 2 ∧ 0 ≤ o ∧ o ≤ 12) := by
 unfold Tr.okE at h
 rw [Bool.and_eq_true] at h
 have h2 := h.2
 by_cases h0 : k = 0
 ·rw [if_pos h0, decide_eq_true_eq] at h2; exact .inl ⟨h0, h2.1, h2.2.2.1, h2.2.2.2⟩
 rw [if_neg h0] at h2
 by_cases h0 : k = 1
 ·rw [if_pos h0, decide_eq_true_eq] at h2; exact .inr (.inl ⟨h0, h2.1⟩)
 rw [if_neg h0] at h2
 by_cases h0 : k = 2
 ·rw [if_pos h0, decide_eq_true_eq] at h2; exact .inr (.inr (.inl ⟨h0, h2.1⟩))
 rw [if_neg h0] at h2
 by_cases h0 : k = 3
 ·rw [if_pos h0, Bool.and_eq_true, decide_eq_true_eq] at h2; exact .inr (.inr (.inr (.inl ⟨h0, h2.1⟩)))
 rw [if_neg h0] at h2
 by_cases h0 : k = 4
 ·rw [if_pos h0, Bool.and_eq_true, decide_eq_true_eq] at h2; exact .inr (.inr (.inr (.inr (.inl ⟨h0, h2.1⟩))))
 rw [if_neg h0] at h2
 by_cases h0 : k = 5
 ·rw [if_pos h0, Bool.and_eq_true] at h2
  refine .inr (.inr (.inr (.inr (.inr (.inl ⟨h0, fun ha => ?_⟩)))))
  rw [ha] at h2
  simpa using h2.2
 rw [if_neg h0] at h2
 by_cases h0 : k = 6
 ·rw [if_pos h0, decide_eq_true_eq] at h2; exact .inr (.inr (.inr (.inr (.inr (.inr (.inl ⟨h0, h2.1⟩))))))
 rw [if_neg h0] at h2
 by_cases h0 : k = 7
 ·rw [if_pos h0, decide_eq_true_eq] at h2; exact .inr (.inr (.inr (.inr (.inr (.inr (.inr (.inl ⟨h0, h2.1⟩)))))))
 rw [if_neg h0] at h2
 by_cases h0 : k = 8
 ·rw [if_pos h0, decide_eq_true_eq] at h2; exact .inr (.inr (.inr (.inr (.inr (.inr (.inr (.inr (.inl ⟨h0, h2.1⟩))))))))
 rw [if_neg h0] at h2
 by_cases h0 : k = 9
 ·rw [if_pos h0, decide_eq_true_eq] at h2; exact .inr (.inr (.inr (.inr (.inr (.inr (.inr (.inr (.inr (.inl ⟨h0, h2.1⟩)))))))))
 rw [if_neg h0] at h2
 by_cases h0 : k = 10
 ·rw [if_pos h0, decide_eq_true_eq] at h2; exact .inr (.inr (.inr (.inr (.inr (.inr (.inr (.inr (.inr (.inr ⟨h0, h2.1, h2.2.2.1, h2.2.2.2⟩)))))))))
 rw [if_neg h0] at h2
 cases h2
theorem SlE.take {w : World} {p : Option Addr} {n c : Nat} {l : List Tr.E} (h : SlE w (.slice p n c) l) (j : Nat) (hj : j ≤ l.length) : SlE w (.slice p j c) (l.take j) := by
 generalize hv : (Value.slice p n c) = v at h
 cases h with
 | nil p c => obtain rfl : j = 0 := by simpa using hj
              exact .nil _ _
 | row b o c l A hn hm hc ha =>
   cases hv
   have e : (Value.slice (some ⟨b, o, none⟩) j c) = .slice (some ⟨b, o, none⟩) (l.take j).length c := by rw [List.length_take, Nat.min_eq_left hj]
   rw [e]
   have hs : ∀ q x, (l.take j)[q]? = some x → l[q]? = some x := fun q x hq => by
    have h1 := (List.getElem?_eq_some_iff.1 hq).1
    rw [List.getElem?_take_of_lt (by rw [List.length_take] at h1; omega)] at hq
    exact hq
   exact .row b o c _ A (by rw [List.length_take]; omega) hm (fun q x hq => hc q x (hs q x hq)) (fun q x hq => ha q x (hs q x hq))
theorem tab_keep {w w' : World} (ht : Lib.TabIs Tryz.prog w "internal/strconv.uint64pow10" .u64 Lib.pow10Tab) (hb : Below w.heap.size w w') : Lib.TabIs Tryz.prog w' "internal/strconv.uint64pow10" .u64 Lib.pow10Tab := by
 have hgn : Tryz.prog.globalNamed "internal/strconv.uint64pow10" = some 9 := by kernel_rfl
 unfold Lib.TabIs World.var? at ht ⊢
 rw [hgn] at ht ⊢
 simp only [Option.bind_some] at ht ⊢
 have hlt : 9 < w.heap.size := by
  rcases Nat.lt_or_ge 9 w.heap.size with h' | h'
  ·exact h'
  ·rw [Array.getElem?_eq_none h'] at ht
   simp at ht
 rw [hb.block _ hlt]
 exact ht
theorem last_parts (f : Tr.E → Nat × List UInt8) (t : Tr.E → List UInt8) (hf : ∀ e, (f e).2 = t e) (ls : List Tr.E) (M : Nat) (hN : ls.length = M + 1) (x : Tr.E) (hx : ls[M]? = some x) (d : Nat × List UInt8) : (ls.map f).dropLast.map Prod.snd = (ls.take M).map t ∧ (ls.map f).getLastD d = f x := by
 constructor
 ·rw [List.dropLast_eq_take, List.length_map, hN, Nat.add_sub_cancel, ← List.map_take, List.map_map]
  exact List.map_congr_left fun e _ => hf e
 ·rw [List.getLastD_eq_getLast?, List.getLast?_eq_getElem?, List.length_map, hN, Nat.add_sub_cancel, List.getElem?_map, hx]
  rfl
theorem Sy.text_mk (k o i : Int) (nm : ByteArray) (a : Bool) (ls : List Tr.E) : Sy.text (.mk k o i nm a ls) = Sy.node k o i nm.data.toList a (ls.map fun e => (Sy.level e, Sy.text e)) := by
 rw [Sy.text, Sy.texts_map]
set_option maxRecDepth 100000 in
set_option maxHeartbeats 20000000 in
theorem plain_any {w0 : World} {d : Nat} (hx : ExprC w0 d) (hE : PrEnv w0) (e : Tr.E) (p : Option Addr) (N c : Nat) (hd : e.deep ≤ d + 1) (hv : Tr.validE e = true) (hN : e.args.length = N) (hS : SlE w0 (.slice p N c) e.args) (B b : Nat) (l : List UInt8) (deep : Int) (w : World)
 (hI : PrIn w0 B b l deep w) (hlen : l.length + (Sy.text e).length ≤ 140737488355328) :
 Calls Tryz.prog 91 #[.pointer (some ⟨b, 0, none⟩), exprV e (.slice p N c)] w (PrPost B b l (Sy.text e) deep w) := by
 obtain ⟨k, o, i, nm, a, ls⟩ := e
 simp only [Tr.E.args] at hN hS
 rw [Tr.validE, Bool.and_eq_true, Tr.validEs_all, List.all_eq_true, hN] at hv
 obtain ⟨hvs, hok⟩ := hv
 have hf := okE_forms hok
 have hds : ∀ x ∈ ls, x.deep ≤ d := fun x hm => by
  obtain ⟨j, hj⟩ := List.getElem?_of_mem hm
  exact Tr.E.deep_args hd (e := .mk k o i nm a ls) hj
 rw [Sy.text_mk] at hlen ⊢
 have hcap : N ≠ 0 → N ≤ c := fun h0 => by
  obtain ⟨q1, c1, e1, h1⟩ := hS.form
  injection e1 with _ e2 e3
  have := (h1 (by rintro rfl; simp at hN; omega)).1
  omega
 have hlt := hI.lt
 obtain ⟨w1, hw1⟩ : ∃ q, q = w.alloc (.cells #[.pointer (some ⟨b, 0, none⟩)] 81) := ⟨_, rfl⟩
 obtain ⟨w2, hw2⟩ : ∃ q, q = w1.alloc (.cells #[.int .i64 k, .int .i64 o, .int .i64 i, .string nm, .bool a, .slice p N c] 33) := ⟨_, rfl⟩
 have hs1 : w1.heap.size = w.heap.size + 1 := by rw [hw1]; exact World.size_alloc _ _
 have hs2 : w2.heap.size = w.heap.size + 1 + 1 := by rw [hw2, World.size_alloc, hs1]
 have hc1 : w1.heap[w.heap.size]? = some (.cells #[.pointer (some ⟨b, 0, none⟩)] 81 (0, 0)) := by rw [hw1]; exact (MapKept.heap_alloc w _).1
 have hc2 : w2.heap[w1.heap.size]? = some (.cells #[.int .i64 k, .int .i64 o, .int .i64 i, .string nm, .bool a, .slice p N c] 33 (0, 0)) := by rw [hw2]; exact (MapKept.heap_alloc w1 _).1
 have hi1 : PrIn w0 B b l deep w1 := by rw [hw1]; exact hI.box _
 have hi2 : PrIn w0 B b l deep w2 := by rw [hw2]; exact hi1.box _
 have hk2 : Pk B b w w2 := by rw [hw2, hw1]; exact (hI.pk _).trans ((hI.box _).pk _)
 have hc1' : w2.heap[w.heap.size]? = some (.cells #[.pointer (some ⟨b, 0, none⟩)] 81 (0, 0)) := by
  have h1 := below_box w1 (.cells #[.int .i64 k, .int .i64 o, .int .i64 i, .string nm, .bool a, .slice p N c] 33)
  rw [← hw2] at h1
  exact (h1.block _ (by omega)).trans hc1
 rw [hs1] at hc2
 have HW2 : Hid (w2 = (w.alloc (.cells #[.pointer (some ⟨b, 0, none⟩)] 81)).alloc (.cells #[.int .i64 k, .int .i64 o, .int .i64 i, .string nm, .bool a, .slice p N c] 33)) := by show _ = _; rw [hw2, hw1]
 have HI := Lib.hid hi2
 have HK := Lib.hid hk2
 have HP := Lib.hid hc1'
 have HC := Lib.hid hc2
 have HS2 := Lib.hid hs2
 have HNB : Hid (w.heap.size ≠ b ∧ w.heap.size + 1 ≠ b) := ⟨by omega, by omega⟩
 have HS := Lib.hid hS
 have HX := Lib.hid hx
 have HV := Lib.hid hvs
 have HD := Lib.hid hds
 have HN := Lib.hid hN
 have HE := Lib.hid hE
 have HCAP := Lib.hid hcap
 unfold exprV
 simp only [Tr.E.kind, Tr.E.op, Tr.E.int, Tr.E.name, Tr.E.at_]
 clear hI hx hE hS hw1 hw2 hs1 hs2 hc1 hc2 hi1 hi2 hk2 hc1' hvs hds hN hd hok hcap hlt
 rcases hf with ⟨rfl, rfl, hi0, hi1⟩ | ⟨rfl, rfl⟩ | ⟨rfl, rfl⟩ | ⟨rfl, rfl⟩ | ⟨rfl, rfl⟩ | ⟨rfl, ha⟩ | ⟨rfl, rfl⟩ | ⟨rfl, rfl⟩ | ⟨rfl, rfl⟩ | ⟨rfl, rfl⟩ | ⟨rfl, rfl, ho0, ho1⟩
 ·change l.length + (dec i.toNat).length ≤ _ at hlen
  show Calls _ _ _ _ (PrPost B b l (dec i.toNat) deep w)
  have HL := Lib.hid hlen
  clear hlen
  have KF : Hid (∀ W, Below w0.heap.size w0 W → Calls Tryz.prog 142 #[.int .i64 i, .int .i64 10] W fun e w' => e = .returned (.string ⟨(dec i.toNat).toArray⟩) ∧ Below W.heap.size W w') := fun W hb => fmtInt_any i W (tab_keep HE.out.tab hb) hi0 hi1
  have zp := cell_of_blkP HP.out (j := 0) (u := .pointer (some ⟨b, 0, none⟩)) rfl
  have z2 := cell_of_blkP HC.out (j := 2) (u := .int .i64 i) rfl
  go_enter Tryz.func91, Tryz.ntmps91
  go_upto_region 4 with fail
  rw [← HW2.out]
  clear HW2
  refine wp_region_held_drew (S := fun W => W.cell? ⟨w.heap.size, 0, none⟩ = some (.pointer (some ⟨b, 0, none⟩)) ∧ W.cell? ⟨w.heap.size + 1, 2, none⟩ = some (.int .i64 i) ∧ True) (by kernel_rfl) ?_ (fun hHeld => ?_)
  ·exact ⟨zp, z2, trivial⟩
  have HI3 := Lib.hid HI.out.drew
  have HK3 := Lib.hid HK.out.drew
  refine wpAnyH_take (i := 0) (oi := ⟨some 11, _, _, _, _, _⟩) (v := ?_) rfl (by kernel_rfl) (by kernel_rfl) (by kernel_rfl) (fun _ _ _ h => h) (Or.inl ⟨by rfl, ?_⟩) (by assumption) ?_
  rotate_left
  ·(intro w hSw; (try dsimp only at hSw); go_simp; (try with_reducible rfl))
  try simp only [Act.put, List.setIfInBounds_toArray, List.set_cons_zero, List.set_cons_succ]
  refine wpAnyH_take (i := 1) (oi := ⟨some 12, _, _, _, _, _⟩) (v := ?_) rfl (by kernel_rfl) (by kernel_rfl) (by kernel_rfl) (fun _ _ _ h => h) (Or.inl ⟨by rfl, ?_⟩) (by assumption) ?_
  rotate_left
  ·(intro w hSw; (try dsimp only at hSw); go_simp; (try with_reducible rfl))
  try simp only [Act.put, List.setIfInBounds_toArray, List.set_cons_zero, List.set_cons_succ]
  refine wpAnyH_take (i := 2) (oi := ⟨some 13, _, _, _, _, _⟩) (v := ?_) rfl (by kernel_rfl) (by kernel_rfl) (by kernel_rfl) (fun _ _ _ h => h) (Or.inl ⟨by rfl, ?_⟩) (by assumption) ?_
  rotate_left
  ·(intro w hSw; (try dsimp only at hSw); go_simp; (try with_reducible rfl))
  try simp only [Act.put, List.setIfInBounds_toArray, List.set_cons_zero, List.set_cons_succ]
  refine wpAnyH_ready (rs := [3]) (by kernel_rfl) (by simp) ?_
  refine AllReadyH.cons (o := ⟨some 14, _, _, _, _, _⟩) rfl (fun K hK => ?_) AllReadyH.nil
  go_simp
  with_reducible refine (KF.out _ HI3.out.base).mono ?_
  rintro e w3 ⟨rfl, hb3⟩
  go_wp2_with fail
  have HI4 := Lib.hid (HI3.out.below hb3)
  have HPa := Lib.hid ((hb3.block _ (Array.getElem?_eq_some_iff.1 HP.out).1).trans HP.out)
  have HCa := Lib.hid ((hb3.block _ (Array.getElem?_eq_some_iff.1 HC.out).1).trans HC.out)
  have HK4 := Lib.hid (HK3.out.trans (Pk.of_below hb3 HI3.out.leB))
  refine hK.out _ _ ?_ (fun hHeld => ?_)
  ·exact ⟨cell_keep' hb3 hHeld.1, cell_keep' hb3 hHeld.2.1, trivial⟩
  clear hK K
  try simp only [Act.put, List.setIfInBounds_toArray, List.set_cons_zero, List.set_cons_succ]
  refine wpAnyH_ready (rs := [4]) (by kernel_rfl) (by simp) ?_
  refine AllReadyH.cons (o := ⟨some 15, _, _, _, _, _⟩) rfl (fun K hK => ?_) AllReadyH.nil
  go_simp
  have hb4 := below_box w3 (.cells #[.string ⟨(dec i.toNat).toArray⟩] 9)
  refine hK.out _ _ ?_ (fun hHeld => ?_)
  ·exact ⟨cell_keep' hb4 hHeld.1, cell_keep' hb4 hHeld.2.1, trivial⟩
  clear hK K
  try simp only [Act.put, List.setIfInBounds_toArray, List.set_cons_zero, List.set_cons_succ]
  refine wpAnyH_ready (rs := [5]) (by kernel_rfl) (by simp) ?_
  refine AllReadyH.cons (o := ⟨some 16, _, _, _, _, _⟩) rfl (fun K hK => ?_) AllReadyH.nil
  have kw := wr_any HI4.out [⟨(dec i.toNat).toArray⟩] 1 #[.string ⟨(dec i.toNat).toArray⟩] (dec i.toNat) rfl rfl (by simp [flatB]) (by have hlen := HL.out; omega) (by decide)
  have KW := Lib.hid kw
  clear kw
  go_simp
  with_reducible refine KW.out.mono ?_
  rintro e w5 ⟨rfl, hs, hk⟩
  have HI5 := Lib.hid (HI4.out.next hs hk)
  have HK5 := Lib.hid (HK4.out.trans hk)
  have x1 := cell_of_blkP (hk.box HPa.out HNB.out.1 (by decide)) (j := 0) (u := .pointer (some ⟨b, 0, none⟩)) rfl
  have x2 := cell_of_blkP (hk.box HCa.out HNB.out.2 (by decide)) (j := 2) (u := .int .i64 i) rfl
  go_wp2_with fail
  refine hK.out _ _ ?_ (fun hHeld => ?_)
  ·exact ⟨x1, x2, trivial⟩
  clear hK K
  try simp only [Act.put, List.setIfInBounds_toArray, List.set_cons_zero, List.set_cons_succ]
  refine wpAnyH_done (by kernel_rfl) ?_ _
  clear hHeld
  go_wp2_with fail
  go_end0
  exact ⟨rfl, by have h1 := HI5.out.st; first | exact h1 | (simp only [List.append_assoc] at h1 ⊢; exact h1) | (simp only [List.append_assoc, List.nil_append] at h1 ⊢; exact h1), HK5.out⟩
 ·change l.length + ([110, 105, 108]).length ≤ _ at hlen
  show Calls _ _ _ _ (PrPost B b l ([110, 105, 108]) deep w)
  have HL := Lib.hid hlen
  clear hlen
  have kw := wr_any HI.out [⟨#[110, 105, 108]⟩] 1 #[.string ⟨#[110, 105, 108]⟩] ([110, 105, 108]) rfl rfl (by simp [flatB]) (by have hlen := HL.out; simp at hlen ⊢; omega) (by decide)
  rw [HS2.out] at kw
  have KW := Lib.hid kw
  clear kw
  have zp := cell_of_blkP HP.out (j := 0) (u := .pointer (some ⟨b, 0, none⟩)) rfl
  go_enter Tryz.func91, Tryz.ntmps91
  go_wp2_with fail
  rw [← HW2.out]
  clear HW2
  refine KW.out.mono ?_
  rintro e' w3 ⟨rfl, hs, hk⟩
  have HI3 := Lib.hid (HI.out.next hs hk)
  have HK3 := Lib.hid (HK.out.trans hk)
  have HP3 := Lib.hid (hk.box HP.out HNB.out.1 (by decide))
  have HC3 := Lib.hid (hk.box HC.out HNB.out.2 (by decide))
  clear hs hk
  clear zp
  go_wp2_with fail
  go_end0
  exact ⟨rfl, by have h1 := HI3.out.st; first | exact h1 | (simp only [List.append_assoc] at h1 ⊢; exact h1) | (simp only [List.append_assoc, List.nil_append] at h1 ⊢; exact h1), HK3.out⟩
 ·change l.length + ([116, 104, 105, 115]).length ≤ _ at hlen
  show Calls _ _ _ _ (PrPost B b l ([116, 104, 105, 115]) deep w)
  have HL := Lib.hid hlen
  clear hlen
  have kw := wr_any HI.out [⟨#[116, 104, 105, 115]⟩] 1 #[.string ⟨#[116, 104, 105, 115]⟩] ([116, 104, 105, 115]) rfl rfl (by simp [flatB]) (by have hlen := HL.out; simp at hlen ⊢; omega) (by decide)
  rw [HS2.out] at kw
  have KW := Lib.hid kw
  clear kw
  have zp := cell_of_blkP HP.out (j := 0) (u := .pointer (some ⟨b, 0, none⟩)) rfl
  go_enter Tryz.func91, Tryz.ntmps91
  go_wp2_with fail
  rw [← HW2.out]
  clear HW2
  refine KW.out.mono ?_
  rintro e' w3 ⟨rfl, hs, hk⟩
  have HI3 := Lib.hid (HI.out.next hs hk)
  have HK3 := Lib.hid (HK.out.trans hk)
  have HP3 := Lib.hid (hk.box HP.out HNB.out.1 (by decide))
  have HC3 := Lib.hid (hk.box HC.out HNB.out.2 (by decide))
  clear hs hk
  clear zp
  go_wp2_with fail
  go_end0
  exact ⟨rfl, by have h1 := HI3.out.st; first | exact h1 | (simp only [List.append_assoc] at h1 ⊢; exact h1) | (simp only [List.append_assoc, List.nil_append] at h1 ⊢; exact h1), HK3.out⟩
 ·change l.length + (nm.data.toList).length ≤ _ at hlen
  show Calls _ _ _ _ (PrPost B b l (nm.data.toList) deep w)
  have HL := Lib.hid hlen
  clear hlen
  have kw := wr_any HI.out [nm] 1 #[.string nm] (nm.data.toList) rfl rfl (by simp [flatB]) (by have hlen := HL.out; omega) (by decide)
  rw [HS2.out] at kw
  have KW := Lib.hid kw
  clear kw
  have zp := cell_of_blkP HP.out (j := 0) (u := .pointer (some ⟨b, 0, none⟩)) rfl
  have z3 := cell_of_blkP HC.out (j := 3) (u := .string nm) rfl
  go_enter Tryz.func91, Tryz.ntmps91
  go_wp2_with fail
  rw [← HW2.out]
  clear HW2
  refine KW.out.mono ?_
  rintro e' w3 ⟨rfl, hs, hk⟩
  have HI3 := Lib.hid (HI.out.next hs hk)
  have HK3 := Lib.hid (HK.out.trans hk)
  have HP3 := Lib.hid (hk.box HP.out HNB.out.1 (by decide))
  have HC3 := Lib.hid (hk.box HC.out HNB.out.2 (by decide))
  clear hs hk
  clear zp z3
  go_wp2_with fail
  go_end0
  exact ⟨rfl, by have h1 := HI3.out.st; first | exact h1 | (simp only [List.append_assoc] at h1 ⊢; exact h1) | (simp only [List.append_assoc, List.nil_append] at h1 ⊢; exact h1), HK3.out⟩
 ·obtain ⟨x, rfl⟩ : ∃ x, ls = [x] := by
   match ls, HN.out with
   | [x], _ => exact ⟨x, rfl⟩
  change l.length + (Sy.par 8 (Sy.level x, Sy.text x) ++ [46] ++ nm.data.toList).length ≤ _ at hlen
  show Calls _ _ _ _ (PrPost B b l (Sy.par 8 (Sy.level x, Sy.text x) ++ [46] ++ nm.data.toList) deep w)
  have HL := Lib.hid hlen
  clear hlen
  have kp := prefix_any HX.out (.mk 4 o i nm a [x]) x rfl (HD.out x (by simp)) (HV.out x (by simp)) p 1 c HS.out ⟨#[]⟩ 8 w.heap.size (w.heap.size + 1) B b l deep w2 HI.out HP.out HC.out HNB.out.1 HNB.out.2 (by have hlen := HL.out; simp only [List.length_append, List.length_cons, List.length_nil] at hlen ⊢; omega)
  have KP := Lib.hid kp
  clear kp
  go_enter Tryz.func91, Tryz.ntmps91
  go_wp2_with fail
  rw [← HW2.out]
  clear HW2
  refine KP.out.mono ?_
  rintro e' w3 ⟨rfl, hs, hk⟩
  have HI3 := Lib.hid (HI.out.next hs hk)
  have HK3 := Lib.hid (HK.out.trans hk)
  have HP3 := Lib.hid (hk.box HP.out HNB.out.1 (by decide))
  have HC3 := Lib.hid (hk.box HC.out HNB.out.2 (by decide))
  clear hs hk
  have kw := wr_any HI3.out [⟨#[46]⟩, nm] 2 #[.string ⟨#[46]⟩, .string nm] ([46] ++ nm.data.toList) rfl rfl (by simp [flatB]) (by have hlen := HL.out; simp only [List.length_append, List.length_cons, List.length_nil] at hlen ⊢; omega) (by decide)
  have KW := Lib.hid kw
  clear kw
  have zp := cell_of_blkP HP3.out (j := 0) (u := .pointer (some ⟨b, 0, none⟩)) rfl
  have z3 := cell_of_blkP HC3.out (j := 3) (u := .string nm) rfl
  go_wp2_with fail
  refine KW.out.mono ?_
  rintro e' w4 ⟨rfl, hs, hk⟩
  have HI4 := Lib.hid (HI3.out.next hs hk)
  have HK4 := Lib.hid (HK3.out.trans hk)
  have HP4 := Lib.hid (hk.box HP3.out HNB.out.1 (by decide))
  have HC4 := Lib.hid (hk.box HC3.out HNB.out.2 (by decide))
  clear hs hk
  clear zp z3
  go_wp2_with fail
  go_end0
  exact ⟨rfl, by have h1 := HI4.out.st; first | exact h1 | (simp only [List.append_assoc] at h1 ⊢; exact h1) | (simp only [List.append_assoc, List.nil_append] at h1 ⊢; exact h1), HK4.out⟩
 ·cases a
  ·change l.length + ([110, 101, 119, 32] ++ nm.data.toList ++ [40] ++ Sy.commas ((ls.map fun e => (Sy.level e, Sy.text e)).map Prod.snd) ++ [41]).length ≤ _ at hlen
   show Calls _ _ _ _ (PrPost B b l ([110, 101, 119, 32] ++ nm.data.toList ++ [40] ++ Sy.commas ((ls.map fun e => (Sy.level e, Sy.text e)).map Prod.snd) ++ [41]) deep w)
   have HL := Lib.hid hlen
   clear hlen
   have hms : ((ls.map fun e => (Sy.level e, Sy.text e)).map Prod.snd) = ls.map Sy.text := by rw [List.map_map]; rfl
   have hlen := HL.out
   clear HL
   rw [hms] at hlen ⊢
   have HL := Lib.hid hlen
   clear hlen hms
   have kw := wr_any HI.out [⟨#[110, 101, 119, 32]⟩, nm] 2 #[.string ⟨#[110, 101, 119, 32]⟩, .string nm] ([110, 101, 119, 32] ++ nm.data.toList) rfl rfl (by simp [flatB]) (by have hlen := HL.out; simp only [List.length_append, List.length_cons, List.length_nil] at hlen ⊢; omega) (by decide)
   rw [HS2.out] at kw
   have KW := Lib.hid kw
   clear kw
   have zp := cell_of_blkP HP.out (j := 0) (u := .pointer (some ⟨b, 0, none⟩)) rfl
   have z3 := cell_of_blkP HC.out (j := 3) (u := .string nm) rfl
   go_enter Tryz.func91, Tryz.ntmps91
   go_wp2_with fail
   rw [← HW2.out]
   clear HW2
   refine KW.out.mono ?_
   rintro e' w3 ⟨rfl, hs, hk⟩
   have HI3 := Lib.hid (HI.out.next hs hk)
   have HK3 := Lib.hid (HK.out.trans hk)
   have HP3 := Lib.hid (hk.box HP.out HNB.out.1 (by decide))
   have HC3 := Lib.hid (hk.box HC.out HNB.out.2 (by decide))
   clear hs hk
   clear zp z3
   have zp := cell_of_blkP HP3.out (j := 0) (u := .pointer (some ⟨b, 0, none⟩)) rfl
   have z4 := cell_of_blkP HC3.out (j := 4) (u := .bool false) rfl
   have z5 := cell_of_blkP HC3.out (j := 5) (u := .slice p N c) rfl
   have KL := Lib.hid (list_any HX.out ls HD.out HV.out p N c HN.out HS.out B b _ deep w3 HI3.out (by have hlen := HL.out; simp only [List.length_append, List.length_cons, List.length_nil] at hlen ⊢; omega))
   go_wp2_with fail
   refine KL.out.mono ?_
   rintro e' w4 ⟨rfl, hs, hk⟩
   have HI4 := Lib.hid (HI3.out.next hs hk)
   have HK4 := Lib.hid (HK3.out.trans hk)
   have HP4 := Lib.hid (hk.box HP3.out HNB.out.1 (by decide))
   have HC4 := Lib.hid (hk.box HC3.out HNB.out.2 (by decide))
   clear hs hk
   clear zp z4 z5
   have z4 := cell_of_blkP HC4.out (j := 4) (u := .bool false) rfl
   go_wp2_with fail
   go_end0
   exact ⟨rfl, by have h1 := HI4.out.st; first | exact h1 | (simp only [List.append_assoc] at h1 ⊢; exact h1) | (simp only [List.append_assoc, List.nil_append] at h1 ⊢; exact h1), HK4.out⟩
  ·have hn0 := ha rfl
   obtain ⟨M, rfl⟩ : ∃ M, N = M + 1 := ⟨N - 1, by omega⟩
   obtain ⟨x, hx⟩ : ∃ x, ls[M]? = some x := ⟨_, List.getElem?_eq_getElem (by rw [HN.out]; omega)⟩
   have hlp := last_parts (fun e => (Sy.level e, Sy.text e)) Sy.text (fun _ => rfl) ls M HN.out x hx (9, [])
   obtain ⟨b', o', aa, rfl, _, hc, hbd, hsl⟩ := HS.out.get hx
   obtain ⟨pa, ca, rfl, _⟩ := hsl.form
   obtain ⟨AN, hAN⟩ : ∃ q, x.args.length = q := ⟨_, rfl⟩
   rw [hAN] at hsl hc
   have hm := List.mem_of_getElem? hx
   have hts := HS.out.take M (by rw [HN.out]; omega)
   have HXX : Hid (∀ W l', PrIn w0 B b l' deep W → l'.length + (Sy.par 7 (Sy.level x, Sy.text x)).length ≤ 140737488355328 → Calls Tryz.prog 44 #[.pointer (some ⟨b, 0, none⟩), exprV x (.slice pa AN ca), .int .i64 7] W (PrPost B b l' (Sy.par 7 (Sy.level x, Sy.text x)) deep W)) := fun W l' h1 h2 => HX.out x pa AN ca B b l' deep W 7 (HD.out x hm) (HV.out x hm) hAN hsl h1 h2
   have HTS := Lib.hid hts
   have HCX := Lib.hid hc
   have hmc : M + 1 ≤ c := HCAP.out (by omega)
   have hml : M + 1 ≤ 9223372036854775807 := by have := HS.out.len; rw [HN.out] at this; unfold maxLen at this; exact this
   have HTN : Hid ((ls.take M).length = M) := by show _ = _; rw [List.length_take, HN.out]; omega
   rw [Sy.node, if_neg (by decide), if_neg (by decide), if_neg (by decide), if_neg (by decide), if_neg (by decide), if_pos rfl, if_pos rfl, hlp.1, hlp.2] at hlen
   rw [Sy.node, if_neg (by decide), if_neg (by decide), if_neg (by decide), if_neg (by decide), if_neg (by decide), if_pos rfl, if_pos rfl, hlp.1, hlp.2]
   have HL := Lib.hid hlen
   clear hlen hlp hx hc hbd hsl hm hts hAN
   have kw := wr_any HI.out [⟨#[110, 101, 119, 32]⟩, nm] 2 #[.string ⟨#[110, 101, 119, 32]⟩, .string nm] ([110, 101, 119, 32] ++ nm.data.toList) rfl rfl (by simp [flatB]) (by have hlen := HL.out; simp only [List.length_append, List.length_cons, List.length_nil] at hlen ⊢; omega) (by decide)
   rw [HS2.out] at kw
   have KW := Lib.hid kw
   clear kw
   have zp := cell_of_blkP HP.out (j := 0) (u := .pointer (some ⟨b, 0, none⟩)) rfl
   have z3 := cell_of_blkP HC.out (j := 3) (u := .string nm) rfl
   go_enter Tryz.func91, Tryz.ntmps91
   go_wp2_with fail
   rw [← HW2.out]
   clear HW2
   refine KW.out.mono ?_
   rintro e' w3 ⟨rfl, hs, hk⟩
   have HI3 := Lib.hid (HI.out.next hs hk)
   have HK3 := Lib.hid (HK.out.trans hk)
   have HP3 := Lib.hid (hk.box HP.out HNB.out.1 (by decide))
   have HC3 := Lib.hid (hk.box HC.out HNB.out.2 (by decide))
   clear hs hk
   clear zp z3
   have zp := cell_of_blkP HP3.out (j := 0) (u := .pointer (some ⟨b, 0, none⟩)) rfl
   have z4 := cell_of_blkP HC3.out (j := 4) (u := .bool true) rfl
   have z5 := cell_of_blkP HC3.out (j := 5) (u := .slice (some ⟨b', o', none⟩) (M + 1) c) rfl
   have KL := Lib.hid (list_any HX.out (ls.take M) (fun y hy => HD.out y (List.mem_of_mem_take hy)) (fun y hy => HV.out y (List.mem_of_mem_take hy)) _ M c HTN.out HTS.out B b _ deep w3 HI3.out (by have hlen := HL.out; simp only [List.length_append, List.length_cons, List.length_nil] at hlen ⊢; omega))
   have bw : IntKind.i64.wrap (((M : Int) + 1) - 1) = (M : Int) := by rw [show ((M : Int) + 1) - 1 = (M : Int) by omega]; exact IntWalk.i64_in _ (by omega)
   have bm : M ≤ c := by omega
   go_wp2_with fail
   refine KL.out.mono ?_
   rintro e' w4 ⟨rfl, hs, hk⟩
   have HI4 := Lib.hid (HI3.out.next hs hk)
   have HK4 := Lib.hid (HK3.out.trans hk)
   have HP4 := Lib.hid (hk.box HP3.out HNB.out.1 (by decide))
   have HC4 := Lib.hid (hk.box HC3.out HNB.out.2 (by decide))
   clear hs hk
   clear zp z4 z5
   clear bw bm
   have zp := cell_of_blkP HP4.out (j := 0) (u := .pointer (some ⟨b, 0, none⟩)) rfl
   have z4 := cell_of_blkP HC4.out (j := 4) (u := .bool true) rfl
   have kw := wr_any HI4.out [⟨#[32, 97, 116, 32]⟩] 1 #[.string ⟨#[32, 97, 116, 32]⟩] ([32, 97, 116, 32]) rfl rfl (by simp [flatB]) (by have hlen := HL.out; simp only [List.length_append, List.length_cons, List.length_nil] at hlen ⊢; omega) (by decide)
   have KW := Lib.hid kw
   clear kw
   go_wp2_with fail
   refine KW.out.mono ?_
   rintro e' w5 ⟨rfl, hs, hk⟩
   have HI5 := Lib.hid (HI4.out.next hs hk)
   have HK5 := Lib.hid (HK4.out.trans hk)
   have HP5 := Lib.hid (hk.box HP4.out HNB.out.1 (by decide))
   have HC5 := Lib.hid (hk.box HC4.out HNB.out.2 (by decide))
   clear hs hk
   clear zp z4
   have zp := cell_of_blkP HP5.out (j := 0) (u := .pointer (some ⟨b, 0, none⟩)) rfl
   have z5 := cell_of_blkP HC5.out (j := 5) (u := .slice (some ⟨b', o', none⟩) (M + 1) c) rfl
   obtain ⟨y0, y1, y2, y3, y4, y5⟩ := HCX.out.keep HI5.out.base
   have hl1 := cell_lt' z5
   have hl2 := cell_lt' y0
   have b3 : (M : Int) < (M : Int) + 1 := by omega
   have b5 : (0 : Int) ≤ (M : Int) := by omega
   go_wp2_with fail
   go_still_tail 7, (by kernel_rfl)
   change wpList _ _ _ _ _ w5.drew
   have HI6 := Lib.hid HI5.out.drew
   have HK6 := Lib.hid HK5.out.drew
   obtain ⟨w6, hw6⟩ : ∃ q, q = w5.drew := ⟨_, rfl⟩
   rw [← hw6] at HI6 HK6 ⊢
   clear hw6 y0 y1 y2 y3 y4 y5 hl1 hl2 b3 b5 zp z5
   have hcall := HXX.out w6 _ HI6.out (by have hlen := HL.out; simp only [List.length_append, List.length_cons, List.length_nil] at hlen ⊢; omega)
   unfold exprV at hcall
   have HCALL := Lib.hid hcall
   clear hcall
   go_wp2_with fail
   refine HCALL.out.mono ?_
   rintro e' w7 ⟨rfl, hs, hk⟩
   have HI7 := Lib.hid (HI6.out.next hs hk)
   have HK7 := Lib.hid (HK6.out.trans hk)
   clear hs hk
   go_wp2_with fail
   go_end0
   exact ⟨rfl, by have h1 := HI7.out.st; first | exact h1 | (simp only [List.append_assoc] at h1 ⊢; exact h1) | (simp only [List.append_assoc, List.nil_append] at h1 ⊢; exact h1), HK7.out⟩
 ·obtain ⟨x, rfl⟩ : ∃ x, ls = [x] := by
   match ls, HN.out with
   | [x], _ => exact ⟨x, rfl⟩
  change l.length + ([119, 101, 97, 107, 32] ++ Sy.par 7 (Sy.level x, Sy.text x)).length ≤ _ at hlen
  show Calls _ _ _ _ (PrPost B b l ([119, 101, 97, 107, 32] ++ Sy.par 7 (Sy.level x, Sy.text x)) deep w)
  have HL := Lib.hid hlen
  clear hlen
  have kp := prefix_any HX.out (.mk 6 o i nm a [x]) x rfl (HD.out x (by simp)) (HV.out x (by simp)) p 1 c HS.out ⟨#[119, 101, 97, 107, 32]⟩ 7 w.heap.size (w.heap.size + 1) B b l deep w2 HI.out HP.out HC.out HNB.out.1 HNB.out.2 (by have hlen := HL.out; simp only [List.length_append, List.length_cons, List.length_nil] at hlen ⊢; omega)
  have KP := Lib.hid kp
  clear kp
  go_enter Tryz.func91, Tryz.ntmps91
  go_wp2_with fail
  rw [← HW2.out]
  clear HW2
  refine KP.out.mono ?_
  rintro e' w3 ⟨rfl, hs, hk⟩
  have HI3 := Lib.hid (HI.out.next hs hk)
  have HK3 := Lib.hid (HK.out.trans hk)
  have HP3 := Lib.hid (hk.box HP.out HNB.out.1 (by decide))
  have HC3 := Lib.hid (hk.box HC.out HNB.out.2 (by decide))
  clear hs hk
  go_wp2_with fail
  go_end0
  exact ⟨rfl, by have h1 := HI3.out.st; first | exact h1 | (simp only [List.append_assoc] at h1 ⊢; exact h1) | (simp only [List.append_assoc, List.nil_append] at h1 ⊢; exact h1), HK3.out⟩
 ·obtain ⟨x, rfl⟩ : ∃ x, ls = [x] := by
   match ls, HN.out with
   | [x], _ => exact ⟨x, rfl⟩
  change l.length + ([103, 101, 116, 32] ++ Sy.par 7 (Sy.level x, Sy.text x)).length ≤ _ at hlen
  show Calls _ _ _ _ (PrPost B b l ([103, 101, 116, 32] ++ Sy.par 7 (Sy.level x, Sy.text x)) deep w)
  have HL := Lib.hid hlen
  clear hlen
  have kp := prefix_any HX.out (.mk 7 o i nm a [x]) x rfl (HD.out x (by simp)) (HV.out x (by simp)) p 1 c HS.out ⟨#[103, 101, 116, 32]⟩ 7 w.heap.size (w.heap.size + 1) B b l deep w2 HI.out HP.out HC.out HNB.out.1 HNB.out.2 (by have hlen := HL.out; simp only [List.length_append, List.length_cons, List.length_nil] at hlen ⊢; omega)
  have KP := Lib.hid kp
  clear kp
  go_enter Tryz.func91, Tryz.ntmps91
  go_wp2_with fail
  rw [← HW2.out]
  clear HW2
  refine KP.out.mono ?_
  rintro e' w3 ⟨rfl, hs, hk⟩
  have HI3 := Lib.hid (HI.out.next hs hk)
  have HK3 := Lib.hid (HK.out.trans hk)
  have HP3 := Lib.hid (hk.box HP.out HNB.out.1 (by decide))
  have HC3 := Lib.hid (hk.box HC.out HNB.out.2 (by decide))
  clear hs hk
  go_wp2_with fail
  go_end0
  exact ⟨rfl, by have h1 := HI3.out.st; first | exact h1 | (simp only [List.append_assoc] at h1 ⊢; exact h1) | (simp only [List.append_assoc, List.nil_append] at h1 ⊢; exact h1), HK3.out⟩
 ·obtain ⟨x, rfl⟩ : ∃ x, ls = [x] := by
   match ls, HN.out with
   | [x], _ => exact ⟨x, rfl⟩
  change l.length + ([45] ++ Sy.par 7 (Sy.level x, Sy.text x)).length ≤ _ at hlen
  show Calls _ _ _ _ (PrPost B b l ([45] ++ Sy.par 7 (Sy.level x, Sy.text x)) deep w)
  have HL := Lib.hid hlen
  clear hlen
  have kp := prefix_any HX.out (.mk 8 o i nm a [x]) x rfl (HD.out x (by simp)) (HV.out x (by simp)) p 1 c HS.out ⟨#[45]⟩ 7 w.heap.size (w.heap.size + 1) B b l deep w2 HI.out HP.out HC.out HNB.out.1 HNB.out.2 (by have hlen := HL.out; simp only [List.length_append, List.length_cons, List.length_nil] at hlen ⊢; omega)
  have KP := Lib.hid kp
  clear kp
  go_enter Tryz.func91, Tryz.ntmps91
  go_wp2_with fail
  rw [← HW2.out]
  clear HW2
  refine KP.out.mono ?_
  rintro e' w3 ⟨rfl, hs, hk⟩
  have HI3 := Lib.hid (HI.out.next hs hk)
  have HK3 := Lib.hid (HK.out.trans hk)
  have HP3 := Lib.hid (hk.box HP.out HNB.out.1 (by decide))
  have HC3 := Lib.hid (hk.box HC.out HNB.out.2 (by decide))
  clear hs hk
  go_wp2_with fail
  go_end0
  exact ⟨rfl, by have h1 := HI3.out.st; first | exact h1 | (simp only [List.append_assoc] at h1 ⊢; exact h1) | (simp only [List.append_assoc, List.nil_append] at h1 ⊢; exact h1), HK3.out⟩
 ·obtain ⟨x, rfl⟩ : ∃ x, ls = [x] := by
   match ls, HN.out with
   | [x], _ => exact ⟨x, rfl⟩
  change l.length + ([110, 111, 116, 32] ++ Sy.par 3 (Sy.level x, Sy.text x)).length ≤ _ at hlen
  show Calls _ _ _ _ (PrPost B b l ([110, 111, 116, 32] ++ Sy.par 3 (Sy.level x, Sy.text x)) deep w)
  have HL := Lib.hid hlen
  clear hlen
  have kp := prefix_any HX.out (.mk 9 o i nm a [x]) x rfl (HD.out x (by simp)) (HV.out x (by simp)) p 1 c HS.out ⟨#[110, 111, 116, 32]⟩ 3 w.heap.size (w.heap.size + 1) B b l deep w2 HI.out HP.out HC.out HNB.out.1 HNB.out.2 (by have hlen := HL.out; simp only [List.length_append, List.length_cons, List.length_nil] at hlen ⊢; omega)
  have KP := Lib.hid kp
  clear kp
  go_enter Tryz.func91, Tryz.ntmps91
  go_wp2_with fail
  rw [← HW2.out]
  clear HW2
  refine KP.out.mono ?_
  rintro e' w3 ⟨rfl, hs, hk⟩
  have HI3 := Lib.hid (HI.out.next hs hk)
  have HK3 := Lib.hid (HK.out.trans hk)
  have HP3 := Lib.hid (hk.box HP.out HNB.out.1 (by decide))
  have HC3 := Lib.hid (hk.box HC.out HNB.out.2 (by decide))
  clear hs hk
  go_wp2_with fail
  go_end0
  exact ⟨rfl, by have h1 := HI3.out.st; first | exact h1 | (simp only [List.append_assoc] at h1 ⊢; exact h1) | (simp only [List.append_assoc, List.nil_append] at h1 ⊢; exact h1), HK3.out⟩
 ·obtain ⟨x, y, rfl⟩ : ∃ x y, ls = [x, y] := by
   match ls, HN.out with
   | [x, y], _ => exact ⟨x, y, rfl⟩
  obtain ⟨O, rfl⟩ : ∃ q : Nat, o = q := ⟨o.toNat, by omega⟩
  rw [← Sy.text_mk 10 O i nm a [x, y]] at hlen ⊢
  have KB := Lib.hid (binary_any HX.out HE.out O (by omega) i nm a x y (HD.out x (by simp)) (HD.out y (by simp)) (HV.out x (by simp)) (HV.out y (by simp)) p c HS.out B b l deep w2 HI.out hlen)
  clear hlen
  have zp := cell_of_blkP HP.out (j := 0) (u := .pointer (some ⟨b, 0, none⟩)) rfl
  have z0 := cell_of_blkP HC.out (j := 0) (u := .int .i64 10) rfl
  have z1 := cell_of_blkP HC.out (j := 1) (u := .int .i64 O) rfl
  have z2 := cell_of_blkP HC.out (j := 2) (u := .int .i64 i) rfl
  have z3 := cell_of_blkP HC.out (j := 3) (u := .string nm) rfl
  have z4 := cell_of_blkP HC.out (j := 4) (u := .bool a) rfl
  have z5 := cell_of_blkP HC.out (j := 5) (u := .slice p 2 c) rfl
  unfold exprV at KB
  simp only [Tr.E.kind, Tr.E.op, Tr.E.int, Tr.E.name, Tr.E.at_] at KB
  go_enter Tryz.func91, Tryz.ntmps91
  go_wp2_with fail
  rw [← HW2.out]
  clear HW2
  refine KB.out.mono ?_
  rintro e' w3 ⟨rfl, hs, hk⟩
  have HI3 := Lib.hid (HI.out.next hs hk)
  have HK3 := Lib.hid (HK.out.trans hk)
  have HP3 := Lib.hid (hk.box HP.out HNB.out.1 (by decide))
  have HC3 := Lib.hid (hk.box HC.out HNB.out.2 (by decide))
  clear hs hk
  clear zp z0 z1 z2 z3 z4 z5
  go_wp2_with fail
  go_end0
  exact ⟨rfl, by have h1 := HI3.out.st; first | exact h1 | (simp only [List.append_assoc] at h1 ⊢; exact h1) | (simp only [List.append_assoc, List.nil_append] at h1 ⊢; exact h1), HK3.out⟩
end Go.Proofs.YtdckddkalgnlpaaGreatDoor
