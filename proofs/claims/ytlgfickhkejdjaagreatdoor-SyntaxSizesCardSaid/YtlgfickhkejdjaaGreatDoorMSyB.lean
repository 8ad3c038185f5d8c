/-
  Several texts in one: SyExprA, SyList, SyBin.
-/
import Derived.Test.YtlgfickhkejdjaaGreatDoorMSyA
import Derived.Test.YtlgfickhkejdjaaGreatDoorMShelfY
import Derived.Deep.RegionHeld3
import Derived.Deep.DeepCutAuto
import Derived.StillTailTactics
import Derived.Lib.ItoaNum
import Derived.Deep.QuietTactic
import Derived.BigQuiet
namespace Go.Proofs.YtlgfickhkejdjaaGreatDoor
open Go.RowKit

theorem decDigits_dec : ∀ n, Lib.decDigits n = dec n := by
  intro n
  induction n using Nat.strongRecOn with
  | ind n ih =>
    by_cases h : n < 10
    · rw [Lib.decDigits, dif_pos h, dec_small h]
      unfold dig
      rw [Nat.mod_eq_of_lt h]
    · rw [Lib.decDigits, dif_neg h, dec_big h, ih (n / 10) (by omega)]
      rfl
theorem fmtInt_any (n : Int) (w : World) (hT : Lib.TabIs Tryz.prog w "internal/strconv.uint64pow10" .u64 Lib.pow10Tab) (h0 : 0 ≤ n) (h1 : n ≤ 2305843009213693951) :
    Calls Tryz.prog 113 #[.int .i64 n, .int .i64 10] w fun e w' => e = .returned (.string ⟨(dec n.toNat).toArray⟩) ∧ Below w.heap.size w w' := by
  refine (Tryz.strconv_FormatInt_10 n (by omega) (by omega) w hT).mono ?_
  rintro e w' ⟨rfl, k, os, rfl⟩
  refine ⟨?_, ⟨rfl, rfl, rfl, by simp [Go.Sort.grow, World.drewN], fun k hk => Go.Sort.heap_grow_old _ _ hk⟩⟩
  unfold Lib.itoa
  rw [if_neg (by omega), decDigits_dec]
theorem Pk.of_below {B b : Nat} {w w' : World} (h : Below w.heap.size w w') (hB : B ≤ w.heap.size) : Pk B b w w' :=
  ⟨h.mono hB, fun k _ hk _ _ => (h.block k (Array.getElem?_eq_some_iff.1 hk).1).trans hk⟩
theorem PrIn.below {w0 : World} {B b : Nat} {l : List UInt8} {deep : Int} {w w' : World} (h : PrIn w0 B b l deep w) (hb : Below w.heap.size w w') : PrIn w0 B b l deep w' :=
  h.next (h.st.next hb) (Pk.of_below hb h.leB)

/-- the contract of expr at expressions of a depth -/
def ExprC (w0 : World) (d : Nat) : Prop := ∀ (e : Tr.E) (p : Option Addr) (N c B b : Nat) (l : List UInt8) (deep : Int) (w : World) (req : Nat), e.deep ≤ d → Tr.validE e = true → e.args.length = N → SlE w0 (.slice p N c) e.args → PrIn w0 B b l deep w →
  l.length + (Sy.par req (Sy.level e, Sy.text e)).length ≤ 140737488355328 →
  Calls Tryz.prog 42 #[.pointer (some ⟨b, 0, none⟩), exprV e (.slice p N c), .int .i64 req] w (PrPost B b l (Sy.par req (Sy.level e, Sy.text e)) deep w)
def exprCells (e : Tr.E) (a : Value) : Array Value := #[.int .i64 e.kind, .int .i64 e.op, .int .i64 e.int, .string e.name, .bool e.at_, a]

set_option maxRecDepth 100000 in
set_option maxHeartbeats 4000000 in
theorem prefix_any {w0 : World} {d : Nat} (hx : ExprC w0 d) (e x : Tr.E) (hx0 : e.args[0]? = some x) (hd : x.deep ≤ d) (hv : Tr.validE x = true) (p : Option Addr) (N c : Nat) (hS : SlE w0 (.slice p N c) e.args) (s : ByteArray) (req pb eb B b : Nat) (l : List UInt8) (deep : Int) (w : World)
    (hI : PrIn w0 B b l deep w) (hpb : w.heap[pb]? = some (.cells #[.pointer (some ⟨b, 0, none⟩)] 62 (0, 0))) (heb : w.heap[eb]? = some (.cells (exprCells e (.slice p N c)) 24 (0, 0))) (hpbb : pb ≠ b) (hebb : eb ≠ b)
    (hlen : l.length + (s.data.toList ++ Sy.par req (Sy.level x, Sy.text x)).length ≤ 140737488355328) :
    Calls Tryz.prog 112 #[.string s, .int .i64 req, .pointer (some ⟨pb, 0, none⟩), .pointer (some ⟨eb, 0, none⟩)] w (PrPost B b l (s.data.toList ++ Sy.par req (Sy.level x, Sy.text x)) deep w) := by
  rw [List.length_append] at hlen
  have KW := Lib.hid (wr_any hI [s] 1 #[.string s] s.data.toList rfl rfl (by simp [flatB]) (by omega) (by decide))
  have cp := cell_of_blkP hpb (j := 0) (u := .pointer (some ⟨b, 0, none⟩)) rfl
  obtain ⟨b', o', aa, rfl, _, hc, hbd, hsl⟩ := hS.get hx0
  have hN : 1 ≤ N := by
    have h1 : 1 ≤ e.args.length := by
      obtain ⟨h2, _⟩ := List.getElem?_eq_some_iff.1 hx0
      exact h2
    obtain ⟨q1, c1, e1, _⟩ := hS.form
    injection e1 with _ e2 _
    omega
  obtain ⟨pa, ca, rfl, _⟩ := hsl.form
  obtain ⟨AN, hAN⟩ : ∃ q, x.args.length = q := ⟨_, rfl⟩
  rw [hAN] at hsl hc
  have HI := Lib.hid hI
  have HPB := Lib.hid hpb
  have HEB := Lib.hid heb
  have HC := Lib.hid hc
  have HX : Hid (∀ W l', PrIn w0 B b l' deep W → l'.length + (Sy.par req (Sy.level x, Sy.text x)).length ≤ 140737488355328 → Calls Tryz.prog 42 #[.pointer (some ⟨b, 0, none⟩), exprV x (.slice pa AN ca), .int .i64 req] W (PrPost B b l' (Sy.par req (Sy.level x, Sy.text x)) deep W)) :=
    fun W l' h1 h2 => hx x pa AN ca B b l' deep W req hd hv hAN hsl h1 h2
  have HLEN := Lib.hid hlen
  clear hI hpb heb hc hbd hsl hx hd hv hx0 hAN hS hlen
  go_enter Tryz.func112, Tryz.ntmps112
  go_wp2_with fail
  refine KW.out.mono ?_
  rintro e' w2 ⟨rfl, hs2, hk2⟩
  have HI2 := Lib.hid (HI.out.next hs2 hk2)
  have HK2 := Lib.hid hk2
  have cp2 := cell_of_blkP (hk2.box HPB.out hpbb (by decide)) (j := 0) (u := .pointer (some ⟨b, 0, none⟩)) rfl
  have ce2 := cell_of_blkP (hk2.box HEB.out hebb (by decide)) (j := 5) (u := .slice (some ⟨b', o', none⟩) N c) rfl
  obtain ⟨y0, y1, y2, y3, y4, y5⟩ := HC.out.keep HI2.out.base
  simp only [Nat.zero_mul, Nat.add_zero] at y0 y1 y2 y3 y4 y5
  have b3 : (0 : Int) < (N : Int) := by omega
  have b4 : 0 < N := hN
  have hl1 := cell_lt' ce2
  have hl2 := cell_lt' y0
  clear hs2 hk2 cp
  go_wp2_with fail
  go_still_tail 6, (by kernel_rfl)
  change wpList _ _ _ _ _ w2.drew
  have HI3 := Lib.hid HI2.out.drew
  have HK3 := Lib.hid HK2.out.drew
  obtain ⟨w3, hw3⟩ : ∃ q, q = w2.drew := ⟨_, rfl⟩
  rw [← hw3] at HI3 HK3 ⊢
  clear hw3 cp2 ce2 y0 y1 y2 y3 y4 y5 hl1 hl2
  have hcall := HX.out w3 _ HI3.out (by rw [List.length_append]; have := HLEN.out; omega)
  unfold exprV at hcall
  have HCALL := Lib.hid hcall
  clear hcall
  go_wp2_with fail
  refine HCALL.out.mono ?_
  rintro e' w4 ⟨rfl, hs4, hk4⟩
  have HS4 := Lib.hid hs4
  have HK4 := Lib.hid (HK3.out.trans hk4)
  clear hs4 hk4
  go_wp2_with fail
  go_end0
  exact ⟨rfl, by rw [← List.append_assoc]; exact HS4.out, HK4.out⟩
end Go.Proofs.YtlgfickhkejdjaaGreatDoor

namespace Go.Proofs.YtlgfickhkejdjaaGreatDoor
open Go.RowKit
namespace Sy
theorem commas_app : ∀ (a b : List Bytes), a ≠ [] → b ≠ [] → commas (a ++ b) = commas a ++ [44, 32] ++ commas b
  | [], _, h, _ => absurd rfl h
  | _, [], _, h => absurd rfl h
  | [x], y :: r, _, _ => by simp [commas]
  | x :: z :: a, y :: r, _, _ => by
    show commas (x :: z :: (a ++ y :: r)) = _
    rw [commas, commas, show z :: (a ++ y :: r) = (z :: a) ++ (y :: r) from rfl, commas_app (z :: a) (y :: r) (by simp) (by simp)]
    simp only [List.append_assoc]
theorem commas_snoc (l : List Bytes) (x : Bytes) (h : l ≠ []) : commas (l ++ [x]) = commas l ++ [44, 32] ++ x := by rw [commas_app l [x] h (by simp), commas]
theorem commas_take (l : List Bytes) (j : Nat) : (commas (l.take j)).length ≤ (commas l).length := by
  by_cases h1 : l.take j = []
  · rw [h1, commas]; exact Nat.zero_le _
  · by_cases h2 : l.drop j = []
    · have h3 := List.take_append_drop j l
      rw [h2, List.append_nil] at h3
      rw [h3]; exact Nat.le_refl _
    · have h3 := commas_app _ _ h1 h2
      rw [List.take_append_drop] at h3
      rw [h3, List.length_append, List.length_append]
      omega
theorem level_pos (e : Tr.E) : 1 ≤ level e := by
  obtain ⟨k, o, i, nm, a, l⟩ := e
  show 1 ≤ levelK k o a
  unfold levelK opLevel
  repeat' split
  all_goals omega
theorem par_one (e : Tr.E) : par 1 (level e, text e) = text e := by
  unfold par
  rw [if_neg]
  have := level_pos e
  simp only []
  omega
end Sy
def LIM : Nat := 140737488355328

set_option maxRecDepth 100000 in
set_option maxHeartbeats 8000000 in
theorem list_any {w0 : World} {d : Nat} (hx : ExprC w0 d) (ls : List Tr.E) (hd : ∀ x ∈ ls, x.deep ≤ d) (hv : ∀ x ∈ ls, Tr.validE x = true) (p : Option Addr) (N c : Nat) (hN : ls.length = N) (hS : SlE w0 (.slice p N c) ls) (B b : Nat) (l : List UInt8) (deep : Int) (w : World)
    (hI : PrIn w0 B b l deep w) (hlen : l.length + (1 + (Sy.commas (ls.map Sy.text)).length + 1) ≤ 140737488355328) :
    Calls Tryz.prog 114 #[.pointer (some ⟨b, 0, none⟩), .slice p N c] w (PrPost B b l ([40] ++ Sy.commas (ls.map Sy.text) ++ [41]) deep w) := by
  have KW := Lib.hid (wr_any hI [⟨#[40]⟩] 1 #[.string ⟨#[40]⟩] [40] rfl rfl (by simp [flatB]) (by simp; omega) (by decide))
  have HI := Lib.hid hI
  have HS := Lib.hid hS
  have HN := Lib.hid hN
  have HD := Lib.hid hd
  have HV := Lib.hid hv
  have HX := Lib.hid hx
  have HLEN := Lib.hid hlen
  have hn6 : N ≤ 9223372036854775807 := by
    have := hS.len
    rw [hN] at this
    unfold maxLen at this
    omega
  clear hI hS hN hd hv hx hlen
  go_enter Tryz.func114, Tryz.ntmps114
  go_wp2_with fail
  refine KW.out.mono ?_
  rintro e' w2 ⟨rfl, hs2, hk2⟩
  have HI2 := Lib.hid (HI.out.next hs2 hk2)
  have HK2 := Lib.hid hk2
  clear hs2 hk2
  go_wp2_with fail
  go_loopg [4, 5, 11] N (fun g s4 s5 s11 wr => ∃ j : Nat, s11 = .int .i64 j ∧ j ≤ N ∧ g = N - j ∧ Hid (PrIn w0 B b (l ++ [40] ++ Sy.commas ((ls.take j).map Sy.text)) deep wr) ∧ Hid (Pk B b w wr))
  case atStart => exact ⟨0, rfl, Nat.zero_le _, rfl, by show PrIn _ _ _ _ _ _; rw [List.take_zero]; simpa [Sy.commas] using HI2.out, HK2⟩
  case round =>
    obtain ⟨j, rfl, hj, rfl, HST, HK⟩ := hrel
    clear HI2 HK2
    by_cases hlt : j < N
    · obtain ⟨x, hx⟩ : ∃ x, ls[j]? = some x := ⟨_, List.getElem?_eq_getElem (by rw [HN.out]; exact hlt)⟩
      obtain ⟨b', o', aa, rfl, _, hc, hbd, hsl⟩ := HS.out.get hx
      obtain ⟨y0, y1, y2, y3, y4, y5⟩ := hc.keep HST.out.base
      obtain ⟨pa, ca, rfl, _⟩ := hsl.form
      obtain ⟨AN, hAN⟩ : ∃ q, x.args.length = q := ⟨_, rfl⟩
      rw [hAN] at hsl y5
      have hm := List.mem_of_getElem? hx
      have hfin : ls.take (j + 1) = ls.take j ++ [x] := by rw [List.take_add_one, hx]; rfl
      have HFIN := Lib.hid hfin
      have hcl := Sy.commas_take (ls.map Sy.text) (j + 1)
      rw [← List.map_take, hfin, List.map_append, List.map_singleton] at hcl
      have HCL := Lib.hid hcl
      have HXX : Hid (∀ W l', PrIn w0 B b l' deep W → l'.length + (Sy.text x).length ≤ 140737488355328 → Calls Tryz.prog 42 #[.pointer (some ⟨b, 0, none⟩), exprV x (.slice pa AN ca), .int .i64 1] W (PrPost B b l' (Sy.text x) deep W)) := by
        intro W l' h1 h2
        have := HX.out x pa AN ca B b l' deep W 1 (HD.out x hm) (HV.out x hm) hAN hsl h1 (by rw [Sy.par_one]; exact h2)
        rw [Sy.par_one] at this
        exact this
      have hb4 := below_box wr (.cells #[.int .i64 x.kind, .int .i64 x.op, .int .i64 x.int, .string x.name, .bool x.at_, .slice pa AN ca] 24)
      have hbx := (MapKept.heap_alloc wr (.cells #[.int .i64 x.kind, .int .i64 x.op, .int .i64 x.int, .string x.name, .bool x.at_, .slice pa AN ca] 24)).1
      have hi4 := HST.out.box (.cells #[.int .i64 x.kind, .int .i64 x.op, .int .i64 x.int, .string x.name, .bool x.at_, .slice pa AN ca] 24)
      have hk4 := HK.out.trans (HST.out.pk (.cells #[.int .i64 x.kind, .int .i64 x.op, .int .i64 x.int, .string x.name, .bool x.at_, .slice pa AN ca] 24))
      have hne := HST.out.ne
      obtain ⟨BX, hBX⟩ : ∃ q, wr.heap.size = q := ⟨_, rfl⟩
      obtain ⟨w4, hw4⟩ : ∃ q, q = wr.alloc (.cells #[.int .i64 x.kind, .int .i64 x.op, .int .i64 x.int, .string x.name, .bool x.at_, .slice pa AN ca] 24) := ⟨_, rfl⟩
      rw [← hw4] at hb4 hbx hi4 hk4
      rw [hBX] at hbx hne
      have HW4 := Lib.hid hw4
      have HBX := Lib.hid hBX
      have HBXC := Lib.hid hbx
      have HI4 := Lib.hid hi4
      have HK4 := Lib.hid hk4
      have HNE := Lib.hid hne
      have b3 : (j : Int) < (N : Int) := by omega
      have hl0 := cell_lt' y0
      clear hx hc hbd hsl hm hfin hcl hb4 hbx hi4 hk4 hw4 hBX hne hAN
      go_upto_if 17 with fail
      rw [← HW4.out, HBX.out]
      clear y0 y1 y2 y3 y4 y5 hl0 HW4 HBX
      by_cases hj0 : j = 0
      · subst hj0
        have HKX := HK4
        have e0 := cell_of_blkP HBXC.out (j := 0) (u := .int .i64 x.kind) rfl
        have e1 := cell_of_blkP HBXC.out (j := 1) (u := .int .i64 x.op) rfl
        have e2 := cell_of_blkP HBXC.out (j := 2) (u := .int .i64 x.int) rfl
        have e3 := cell_of_blkP HBXC.out (j := 3) (u := .string x.name) rfl
        have e4 := cell_of_blkP HBXC.out (j := 4) (u := .bool x.at_) rfl
        have e5 := cell_of_blkP HBXC.out (j := 5) (u := .slice pa AN ca) rfl
        have hcall := HXX.out w4 _ HI4.out (by have h1 := HCL.out; have h2 := HLEN.out; simp only [List.take_zero, List.nil_append, List.map_nil, Sy.commas, List.append_nil, List.length_append, List.length_cons, List.length_nil] at h1 ⊢; omega)
        unfold exprV at hcall
        have HCALL := Lib.hid hcall
        clear hcall
        go_wp2_with fail
        refine HCALL.out.mono ?_
        rintro e' w6 ⟨rfl, hs6, hk6⟩
        have HI6 := Lib.hid (HI4.out.next hs6 hk6)
        have HK6 := Lib.hid (HKX.out.trans hk6)
        clear hs6 hk6 e0 e1 e2 e3 e4 e5
        go_wp2_with fail
        go_roundg (N - (0 + 1))
        case measure => omega
        case rel =>
          refine ⟨0 + 1, by go_num, by omega, rfl, ?_, HK6⟩
          have h1 := HI6.out
          rw [HFIN.out]
          simp only [List.take_zero, List.map_nil, Sy.commas, List.append_nil] at h1
          show PrIn _ _ _ _ _ _
          simpa [Sy.commas] using h1
      · have hj1 : (0 : Int) < (j : Int) := by omega
        have hjt : (ls.take j).map Sy.text ≠ [] := by
          intro h0
          have h1 := congrArg List.length h0
          rw [List.length_map, List.length_take, HN.out] at h1
          simp at h1
          omega
        have HSN := Lib.hid (Sy.commas_snoc _ (Sy.text x) hjt)
        have KW5 := Lib.hid (wr_any HI4.out [⟨#[44, 32]⟩] 1 #[.string ⟨#[44, 32]⟩] [44, 32] rfl rfl (by simp [flatB]) (by have h1 := HCL.out; have h2 := HLEN.out; rw [HSN.out] at h1; simp only [List.length_append, List.length_cons, List.length_nil] at h1 ⊢; omega) (by decide))
        clear hjt
        go_wp2_with fail
        refine KW5.out.mono ?_
        rintro e' w5 ⟨rfl, hs5, hk5⟩
        have HI5 := Lib.hid (HI4.out.next hs5 hk5)
        have HKX := Lib.hid (HK4.out.trans hk5)
        have HBX5 := Lib.hid (hk5.box HBXC.out HNE.out (by decide))
        clear hs5 hk5 KW5
        have e0 := cell_of_blkP HBX5.out (j := 0) (u := .int .i64 x.kind) rfl
        have e1 := cell_of_blkP HBX5.out (j := 1) (u := .int .i64 x.op) rfl
        have e2 := cell_of_blkP HBX5.out (j := 2) (u := .int .i64 x.int) rfl
        have e3 := cell_of_blkP HBX5.out (j := 3) (u := .string x.name) rfl
        have e4 := cell_of_blkP HBX5.out (j := 4) (u := .bool x.at_) rfl
        have e5 := cell_of_blkP HBX5.out (j := 5) (u := .slice pa AN ca) rfl
        have hcall := HXX.out w5 _ HI5.out (by have h1 := HCL.out; have h2 := HLEN.out; rw [HSN.out] at h1; simp only [List.length_append, List.length_cons, List.length_nil] at h1 ⊢; omega)
        unfold exprV at hcall
        have HCALL := Lib.hid hcall
        clear hcall
        go_wp2_with fail
        refine HCALL.out.mono ?_
        rintro e' w6 ⟨rfl, hs6, hk6⟩
        have HI6 := Lib.hid (HI5.out.next hs6 hk6)
        have HK6 := Lib.hid (HKX.out.trans hk6)
        clear hs6 hk6 e0 e1 e2 e3 e4 e5
        go_wp2_with fail
        go_roundg (N - (j + 1))
        case measure => omega
        case rel =>
          refine ⟨j + 1, by go_num, by omega, rfl, ?_, HK6⟩
          have h1 := HI6.out
          rw [HFIN.out]
          rw [List.map_append, List.map_singleton, HSN.out]
          simp only [List.append_assoc] at h1 ⊢
          exact h1
    · obtain rfl : j = N := by omega
      have hfull : ls.take j = ls := List.take_of_length_le (by rw [HN.out]; exact Nat.le_refl _)
      rw [hfull] at HST
      have KW9 := Lib.hid (wr_any HST.out [⟨#[41]⟩] 1 #[.string ⟨#[41]⟩] [41] rfl rfl (by simp [flatB]) (by have := HLEN.out; simp only [List.length_append, List.length_cons, List.length_nil]; omega) (by decide))
      clear hfull
      go_wp2_with fail
      refine KW9.out.mono ?_
      rintro e' w9 ⟨rfl, hs9, hk9⟩
      have HS9 := Lib.hid hs9
      have HK9 := Lib.hid (HK.out.trans hk9)
      clear hs9 hk9
      go_wp2_with fail
      go_end0
      exact ⟨rfl, by have h1 := HS9.out; simp only [List.append_assoc] at h1 ⊢; exact h1, HK9.out⟩
end Go.Proofs.YtlgfickhkejdjaaGreatDoor

namespace Go.Proofs.YtlgfickhkejdjaaGreatDoor
open Go.RowKit

theorem Sy.text_bin (o i : Int) (nm : ByteArray) (a : Bool) (x y : Tr.E) : Sy.text (.mk 10 o i nm a [x, y]) = Sy.par (if Sy.opLevel o = 4 then 5 else Sy.opLevel o) (Sy.level x, Sy.text x) ++ [32] ++ Sy.sym o ++ [32] ++ Sy.par (Sy.opLevel o + 1) (Sy.level y, Sy.text y) := by
  rw [Sy.text, Sy.texts, Sy.texts, Sy.texts]
  rfl
theorem Sy.opLevel_le (o : Int) : Sy.opLevel o ≤ 6 := by
  unfold Sy.opLevel
  repeat' split
  all_goals omega
set_option maxRecDepth 100000 in
set_option maxHeartbeats 8000000 in
theorem binary_any {w0 : World} {d : Nat} (hx : ExprC w0 d) (hE : PrEnv w0) (O : Nat) (hO : O ≤ 12) (i : Int) (nm : ByteArray) (a : Bool) (x y : Tr.E) (hdx : x.deep ≤ d) (hdy : y.deep ≤ d) (hvx : Tr.validE x = true) (hvy : Tr.validE y = true) (p : Option Addr) (c : Nat) (hS : SlE w0 (.slice p 2 c) [x, y]) (B b : Nat) (l : List UInt8) (deep : Int) (w : World)
    (hI : PrIn w0 B b l deep w) (hlen : l.length + (Sy.text (.mk 10 O i nm a [x, y])).length ≤ 140737488355328) :
    Calls Tryz.prog 115 #[.pointer (some ⟨b, 0, none⟩), exprV (.mk 10 O i nm a [x, y]) (.slice p 2 c)] w (PrPost B b l (Sy.text (.mk 10 O i nm a [x, y])) deep w) := by
  obtain ⟨b', o', ax, rfl, _, hcx, hbdx, hsx⟩ := hS.get (j := 0) (e := x) rfl
  obtain ⟨b2, o2, ay, e2, _, hcy, hbdy, hsy⟩ := hS.get (j := 1) (e := y) rfl
  obtain rfl : b' = b2 := by simp only [Option.some.injEq, Addr.mk.injEq] at e2; exact e2.1
  obtain rfl : o' = o2 := by simp only [Option.some.injEq, Addr.mk.injEq] at e2; exact e2.2.1
  clear e2
  obtain ⟨px, cx, rfl, _⟩ := hsx.form
  obtain ⟨XN, hXN⟩ : ∃ q, x.args.length = q := ⟨_, rfl⟩
  rw [hXN] at hsx hcx
  obtain ⟨py, cy, rfl, _⟩ := hsy.form
  obtain ⟨YN, hYN⟩ : ∃ q, y.args.length = q := ⟨_, rfl⟩
  rw [hYN] at hsy hcy
  rw [Sy.text_bin] at hlen ⊢
  obtain ⟨LQ, hLQ⟩ : ∃ q, (if Sy.opLevel O = 4 then 5 else Sy.opLevel O) = q := ⟨_, rfl⟩
  obtain ⟨TX, hTX⟩ : ∃ q, Sy.par LQ (Sy.level x, Sy.text x) = q := ⟨_, rfl⟩
  obtain ⟨TY, hTY⟩ : ∃ q, Sy.par (Sy.opLevel O + 1) (Sy.level y, Sy.text y) = q := ⟨_, rfl⟩
  rw [hLQ, hTX, hTY] at hlen ⊢
  have hll := Sy.opLevel_le O
  obtain ⟨k1, k2⟩ := hE.ops O hO
  obtain ⟨LV, hLV⟩ : ∃ q, Sy.opLevel (O : Int) = q := ⟨_, rfl⟩
  obtain ⟨SY, hSY⟩ : ∃ q, Sy.sym (O : Int) = q := ⟨_, rfl⟩
  rw [hLV] at hLQ hTY hll k2
  rw [hSY] at hlen k1 ⊢
  have HXX : Hid (∀ W l', PrIn w0 B b l' deep W → l'.length + TX.length ≤ 140737488355328 → Calls Tryz.prog 42 #[.pointer (some ⟨b, 0, none⟩), exprV x (.slice px XN cx), .int .i64 LQ] W (PrPost B b l' TX deep W)) := by
    intro W l' h1 h2
    have := hx x px XN cx B b l' deep W LQ hdx hvx hXN hsx h1 (by rw [hTX]; exact h2)
    rw [hTX] at this
    exact this
  have HYY : Hid (∀ W l', PrIn w0 B b l' deep W → l'.length + TY.length ≤ 140737488355328 → Calls Tryz.prog 42 #[.pointer (some ⟨b, 0, none⟩), exprV y (.slice py YN cy), .int .i64 ((LV : Int) + 1)] W (PrPost B b l' TY deep W)) := by
    intro W l' h1 h2
    have := hx y py YN cy B b l' deep W (LV + 1) hdy hvy hYN hsy h1 (by rw [hTY]; exact h2)
    rw [hTY] at this
    exact this
  have HI := Lib.hid hI
  have HCX := Lib.hid hcx
  have HCY := Lib.hid hcy
  have HLEN := Lib.hid hlen
  have HLQ := Lib.hid hLQ
  have k1 := cell_keep' hI.base k1
  have k2 := cell_keep' hI.base k2
  have hl9 := Nat.lt_of_lt_of_le hE.lt hI.base.size
  have hlt := hI.lt
  obtain ⟨w1, hw1⟩ : ∃ q, q = w.alloc (.cells #[.int .i64 10, .int .i64 O, .int .i64 i, .string nm, .bool a, .slice (some ⟨b', o', none⟩) 2 c] 24) := ⟨_, rfl⟩
  obtain ⟨w2, hw2⟩ : ∃ q, q = w1.alloc (.cells #[.string ⟨SY.toArray⟩, .int .i64 LV] 133) := ⟨_, rfl⟩
  have hs1 : w1.heap.size = w.heap.size + 1 := by rw [hw1]; exact World.size_alloc _ _
  have hc1 : w1.heap[w.heap.size]? = some (.cells #[.int .i64 10, .int .i64 O, .int .i64 i, .string nm, .bool a, .slice (some ⟨b', o', none⟩) 2 c] 24 (0, 0)) := by rw [hw1]; exact (MapKept.heap_alloc w _).1
  have hc2 : w2.heap[w1.heap.size]? = some (.cells #[.string ⟨SY.toArray⟩, .int .i64 LV] 133 (0, 0)) := by rw [hw2]; exact (MapKept.heap_alloc w1 _).1
  have hi1 : PrIn w0 B b l deep w1 := by rw [hw1]; exact hI.box _
  have hi2 : PrIn w0 B b l deep w2 := by rw [hw2]; exact hi1.box _
  have hk2 : Pk B b w w2 := by rw [hw2, hw1]; exact (hI.pk _).trans ((hI.box _).pk _)
  have hc1' : w2.heap[w.heap.size]? = some (.cells #[.int .i64 10, .int .i64 O, .int .i64 i, .string nm, .bool a, .slice (some ⟨b', o', none⟩) 2 c] 24 (0, 0)) := by
    have h1 := below_box w1 (.cells #[.string ⟨SY.toArray⟩, .int .i64 LV] 133)
    rw [← hw2] at h1
    exact (h1.block _ (by omega)).trans hc1
  rw [hs1] at hc2
  have HW2 : Hid (w2 = (w.alloc (.cells #[.int .i64 10, .int .i64 O, .int .i64 i, .string nm, .bool a, .slice (some ⟨b', o', none⟩) 2 c] 24)).alloc (.cells #[.string ⟨SY.toArray⟩, .int .i64 LV] 133)) := by show _ = _; rw [hw2, hw1]
  have HI2 := Lib.hid hi2
  have HK2 := Lib.hid hk2
  have HC1 := Lib.hid hc1'
  have HC2 := Lib.hid hc2
  have HNB : Hid (w.heap.size ≠ b ∧ w.heap.size + 1 ≠ b) := ⟨by omega, by omega⟩
  have b13 : (O : Int) < 13 := by omega
  have bw : IntKind.i64.wrap ((LV : Int) + 1) = (LV : Int) + 1 := IntWalk.i64_in _ (by omega)
  unfold exprV
  simp only [Tr.E.kind, Tr.E.op, Tr.E.int, Tr.E.name, Tr.E.at_]
  clear hI hcx hcy hbdx hbdy hsx hsy hlen hx hE hS hw1 hw2 hs1 hc1 hc2 hi1 hi2 hk2 hc1' hLQ hTX hTY hLV hSY hll hO hdx hdy hvx hvy hXN hYN
  go_enter Tryz.func115, Tryz.ntmps115
  go_wp2_with fail
  rw [← HW2.out]
  clear HW2 k1 k2 hl9 hlt
  have q1 := cell_of_blkP HC2.out (j := 1) (u := .int .i64 LV) rfl
  go_quiet (fail)
  obtain ⟨w3, hw3⟩ : ∃ q, q = w2.drewN nq := ⟨_, rfl⟩
  have hb3 : Below w2.heap.size w2 w3 := by rw [hw3]; exact ⟨rfl, rfl, rfl, Nat.le_refl _, fun _ _ => rfl⟩
  have HI3 := Lib.hid (HI2.out.below hb3)
  have HK3 := Lib.hid (HK2.out.trans (Pk.of_below hb3 HI2.out.leB))
  have HC13 := Lib.hid ((hb3.block _ (Array.getElem?_eq_some_iff.1 HC1.out).1).trans HC1.out)
  have HC23 := Lib.hid ((hb3.block _ (Array.getElem?_eq_some_iff.1 HC2.out).1).trans HC2.out)
  rw [← hw3]
  have q1 := cell_of_blkP HC23.out (j := 1) (u := .int .i64 LV) rfl
  clear hw3 hb3
  go_upto_if 18 with fail
  go_cut [5, 6] (fun s5 s6 wx => s5 = .int .i64 LQ ∧ s6 = .int .i64 ((LV : Int) + 1) ∧ wx = w3)
  case first =>
    by_cases h4 : LV = 4
    · subst h4
      go_wp2_with fail
      go_meet
      exact ⟨by rw [← HLQ.out]; rfl, rfl, rfl⟩
    · have h4b : ((LV : Int) == 4) = false := beq_eq_false_iff_ne.2 (by omega)
      have hq := HLQ.out
      rw [if_neg h4] at hq
      clear h4
      go_wp2_with fail
      go_meet
      exact ⟨by rw [hq], rfl, rfl⟩
  case rest =>
    obtain ⟨rfl, rfl, hwc⟩ := hcut
    rw [hwc]
    clear hwc q1
    have e5 := cell_of_blkP HC13.out (j := 5) (u := .slice (some ⟨b', o', none⟩) 2 c) rfl
    obtain ⟨y0, y1, y2, y3, y4, y5⟩ := HCX.out.keep HI3.out.base
    simp only [Nat.zero_mul, Nat.add_zero] at y0 y1 y2 y3 y4 y5
    have hl1 := cell_lt' e5
    have hl2 := cell_lt' y0
    have hcall := HXX.out w3 l HI3.out (by have := HLEN.out; simp only [List.length_append] at this; omega)
    unfold exprV at hcall
    have HCALL := Lib.hid hcall
    clear hcall
    go_wp2_with fail
    refine HCALL.out.mono ?_
    rintro e' w4 ⟨rfl, hs4, hk4⟩
    have HI4 := Lib.hid (HI3.out.next hs4 hk4)
    have HK4 := Lib.hid (HK3.out.trans hk4)
    have HC14 := Lib.hid (hk4.box HC13.out HNB.out.1 (by decide))
    have HC24 := Lib.hid (hk4.box HC23.out HNB.out.2 (by decide))
    have q0 := cell_of_blkP HC24.out (j := 0) (u := .string ⟨SY.toArray⟩) rfl
    have KW := Lib.hid (wr_any HI4.out [⟨#[32]⟩, ⟨SY.toArray⟩, ⟨#[32]⟩] 3 #[.string ⟨#[32]⟩, .string ⟨SY.toArray⟩, .string ⟨#[32]⟩] ([32] ++ SY ++ [32]) rfl rfl (by simp [flatB]) (by have := HLEN.out; simp only [List.length_append, List.length_cons, List.length_nil] at this ⊢; omega) (by decide))
    have hl3 := cell_lt' q0
    clear hs4 hk4 e5 y0 y1 y2 y3 y4 y5 hl1 hl2
    go_wp2_with fail
    refine KW.out.mono ?_
    rintro e' w5 ⟨rfl, hs5, hk5⟩
    have HI5 := Lib.hid (HI4.out.next hs5 hk5)
    have HK5 := Lib.hid (HK4.out.trans hk5)
    have e5 := cell_of_blkP (hk5.box HC14.out HNB.out.1 (by decide)) (j := 5) (u := .slice (some ⟨b', o', none⟩) 2 c) rfl
    obtain ⟨y0, y1, y2, y3, y4, y5⟩ := HCY.out.keep HI5.out.base
    simp only [Nat.one_mul] at y0 y1 y2 y3 y4 y5
    have hl1 := cell_lt' e5
    have hl2 := cell_lt' y0
    have hcall := HYY.out w5 _ HI5.out (by have := HLEN.out; simp only [List.length_append] at this ⊢; omega)
    unfold exprV at hcall
    have HCALL := Lib.hid hcall
    clear hcall hs5 hk5 q0 hl3
    go_wp2_with fail
    refine HCALL.out.mono ?_
    rintro e' w6 ⟨rfl, hs6, hk6⟩
    have HS6 := Lib.hid hs6
    have HK6 := Lib.hid (HK5.out.trans hk6)
    clear hs6 hk6
    go_wp2_with fail
    go_end0
    exact ⟨rfl, by have h1 := HS6.out; simp only [List.append_assoc] at h1 ⊢; exact h1, HK6.out⟩
end Go.Proofs.YtlgfickhkejdjaaGreatDoor
