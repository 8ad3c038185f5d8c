/-
  Several texts in one: PbAw, PbJoin, PbLawJoin, PaLx, PbSpace, PbLawSpace.
-/
import Derived.Test.YtdckddkalgnlpaaGreatDoorA33
import Derived.Test.YtdckddkalgnlpaaGreatDoorA32
import Derived.Test.YtdckddkalgnlpaaGreatDoorA29
import Derived.Test.YtdckddkalgnlpaaGreatDoorA14
import Derived.IntWalk
import Derived.Test.YtdckddkalgnlpaaGreatDoorA7
import Derived.Test.YtdckddkalgnlpaaGreatDoorA2
import Derived.Test.YtdckddkalgnlpaaGreatDoorA5
namespace Go.Proofs.YtdckddkalgnlpaaGreatDoor
open Go.RowKit Go.Maps Pw
def awA : List UInt8 := [97, 32, 45, 32, 98, 32, 45, 32, 49]
def awB : List UInt8 := [97, 32, 60, 32, 98, 32, 60, 32, 99]
def awC : List UInt8 := [114, 101, 99, 111, 114, 100, 32, 67, 32, 123, 32, 118, 97, 114, 32, 120, 59, 32, 125]
def awTA : List Lex.Tok := [⟨2, [97], 0, 0⟩, ⟨5, [45], 0, 2⟩, ⟨2, [98], 0, 4⟩, ⟨5, [45], 0, 6⟩, ⟨1, [49], 1, 8⟩, ⟨0, [], 0, 9⟩]
def awTB : List Lex.Tok := [⟨2, [97], 0, 0⟩, ⟨5, [60], 0, 2⟩, ⟨2, [98], 0, 4⟩, ⟨5, [60], 0, 6⟩, ⟨2, [99], 0, 8⟩, ⟨0, [], 0, 9⟩]
def awTC : List Lex.Tok := [⟨4, [114, 101, 99, 111, 114, 100], 0, 0⟩, ⟨3, [67], 0, 7⟩, ⟨5, [123], 0, 9⟩, ⟨4, [118, 97, 114], 0, 11⟩, ⟨2, [120], 0, 15⟩, ⟨5, [59], 0, 16⟩, ⟨5, [125], 0, 18⟩, ⟨0, [], 0, 19⟩]
theorem awA_scan : Lex.scan awA = .toks awTA := by decide +kernel
theorem awB_scan : Lex.scan awB = .toks awTB := by decide +kernel
theorem awC_scan : Lex.scan awC = .toks awTC := by decide +kernel
def awE : Tr.E := Pa.bin 1 (Pa.bin 1 (Pa.var ⟨#[97]⟩) (Pa.var ⟨#[98]⟩)) (Pa.num 1)
def awP : List Tr.C := [⟨⟨#[67]⟩, false, [⟨#[120]⟩], []⟩]
theorem awA_parse (f : Nat) : Pa.pX (f + 30) (Pa.rest awTA 5 0) = .ok awE [] := by kernel_rfl
theorem awB_parse (f : Nat) : Pa.pX (f + 30) (Pa.rest awTB 5 0) = .bad (Pa.rest awTB 5 3) := by kernel_rfl
theorem awC_parse (f : Nat) : Pa.pP (f + 30) [] (Pa.rest awTC 7 0) = .ok awP [] := by kernel_rfl
theorem Pa.Ev.at {α : Type} {p : Nat → Pa.R α} {x : Pa.R α} (N : Nat) (h : ∀ f, p (f + N) = x) : Pa.Ev p x := ⟨N, fun f hf => by
 obtain ⟨g, rfl⟩ : ∃ g, f = g + N := ⟨f - N, by omega⟩
 exact h g⟩
theorem topE_awA {w w' : World} {e : Ending} (h : TopE ⟨awA.toArray⟩ w e w') : Below w.heap.size w w' ∧ ∃ v, e = .returned (.tuple #[v, .int .i64 0, .int .i64 0]) ∧ rdE w' v awE := by
 have hs : Lex.scan (⟨awA.toArray⟩ : ByteArray).data.toList = .toks awTA := awA_scan
 have hev : Pa.Ev (fun f => Pa.pX f (Pa.rest awTA (awTA.length - 1) 0)) (.ok awE []) := .at 30 awA_parse
 obtain ⟨hb, ⟨a, er, h1, _⟩ | ⟨ts, x, v, h1, h2, _, h4, h5⟩ | ⟨ts, x, h1, h2, h3, _⟩ | ⟨ts, k, t, h1, h2, _⟩⟩ := h
 ·rw [hs] at h1; cases h1
 ·rw [hs] at h1; cases h1
  have := hev.det h2
  cases this
  exact ⟨hb, v, h4, h5⟩
 ·rw [hs] at h1; cases h1
  have := hev.det h2
  cases this
  exact absurd h3 (by decide)
 ·rw [hs] at h1; cases h1
  have := hev.det h2
  cases this
theorem topE_awB {w w' : World} {e : Ending} (h : TopE ⟨awB.toArray⟩ w e w') : Below w.heap.size w w' ∧ e = .returned (.tuple #[.agg #[.int .i64 0, .int .i64 0, .int .i64 0, .string ⟨#[]⟩, .bool false, .slice none 0 0], .int .i64 6, .int .i64 3]) := by
 have hs : Lex.scan (⟨awB.toArray⟩ : ByteArray).data.toList = .toks awTB := awB_scan
 have hev : Pa.Ev (fun f => Pa.pX f (Pa.rest awTB (awTB.length - 1) 0)) (.bad (Pa.rest awTB 5 3)) := .at 30 awB_parse
 obtain ⟨hb, ⟨a, er, h1, _⟩ | ⟨ts, x, v, h1, h2, _, h4, h5⟩ | ⟨ts, x, h1, h2, h3, _⟩ | ⟨ts, k, t, h1, h2, hk, ht, h4⟩⟩ := h
 ·rw [hs] at h1; cases h1
 ·rw [hs] at h1; cases h1
  have := hev.det h2
  cases this
 ·rw [hs] at h1; cases h1
  have := hev.det h2
  cases this
 ·rw [hs] at h1; cases h1
  have h6 := hev.det h2
  injection h6 with h6
  have hT := (scan_tkl awB_scan).1
  have h7 := Pa.rest_inj hT (j := 3) (k := k) (by decide) hk h6
  subst h7
  cases ht
  exact ⟨hb, h4⟩
theorem topP_awC {w w' : World} {e : Ending} (h : TopP ⟨awC.toArray⟩ w e w') : Below w.heap.size w w' ∧ ∃ v, e = .returned (.tuple #[.agg #[v], .int .i64 0, .int .i64 0]) ∧ SlC w' v awP := by
 have hs : Lex.scan (⟨awC.toArray⟩ : ByteArray).data.toList = .toks awTC := awC_scan
 have hev : Pa.Ev (fun f => Pa.pP f [] (Pa.rest awTC (awTC.length - 1) 0)) (.ok awP []) := .at 30 awC_parse
 obtain ⟨hb, ⟨a, er, h1, _⟩ | ⟨ts, x, v, h1, h2, _, h4, h5⟩ | ⟨ts, x, h1, h2, h3, _⟩ | ⟨ts, k, t, h1, h2, _⟩⟩ := h
 ·rw [hs] at h1; cases h1
 ·rw [hs] at h1; cases h1
  have := hev.det h2
  cases this
  exact ⟨hb, v, h4, h5⟩
 ·rw [hs] at h1; cases h1
  have := hev.det h2
  cases this
  exact absurd h3 (by decide)
 ·rw [hs] at h1; cases h1
  have := hev.det h2
  cases this
set_option maxRecDepth 100000 in
set_option maxHeartbeats 4000000 in
theorem awake39_any (w : World) (hE : LexEnv w) : Calls Tryz.prog 9 #[] w fun e w' => e = .returned (.bool true) ∧ Below w.heap.size w w' := by
 have HE := Lib.hid hE
 clear hE
 have KA := Lib.hid (topE_any ⟨awA.toArray⟩ w HE.out (by decide))
 go_enter Tryz.func9, Tryz.ntmps9
 go_wp2_with fail
 refine KA.out.mono ?_
 intro e w1 hp1
 obtain ⟨hb1, v, rfl, a, rfl, hbd, hsl⟩ := topE_awA hp1
 obtain ⟨p1, c1, rfl, _⟩ := hsl.form
 have hln : awE.args.length = 2 := rfl
 rw [hln] at hsl ⊢
 obtain ⟨b0, o0, a0, he0, _, hc0, _, _⟩ := hsl.get (j := 0) (e := Pa.bin 1 (Pa.var ⟨#[97]⟩) (Pa.var ⟨#[98]⟩)) rfl
 cases he0
 obtain ⟨b1', o1', a1', he1, _, hc1, _, _⟩ := hsl.get (j := 1) (e := Pa.num 1) rfl
 cases he1
 have hval : exprV awE (.slice (some ⟨b0, o0, none⟩) 2 c1) = .agg #[.int .i64 10, .int .i64 1, .int .i64 0, .string ⟨#[]⟩, .bool false, .slice (some ⟨b0, o0, none⟩) 2 c1] := rfl
 rw [hval]
 have k0 : w1.cell? ⟨b0, o0, none⟩ = some (.int .i64 10) := hc0.1
 have k1 : w1.cell? ⟨b0, o0 + 6 + 2, none⟩ = some (.int .i64 1) := by
  have := hc1.2.2.1
  rw [Nat.one_mul] at this
  exact this
 have hbx := below_box w1 (.cells #[.int .i64 10, .int .i64 1, .int .i64 0, .string ⟨#[]⟩, .bool false, .slice (some ⟨b0, o0, none⟩) 2 c1] 33)
 have hx := new_at (w := w1) (o := .cells #[.int .i64 10, .int .i64 1, .int .i64 0, .string ⟨#[]⟩, .bool false, .slice (some ⟨b0, o0, none⟩) 2 c1] 33) rfl
 obtain ⟨X1, hX1⟩ : ∃ q, q = w1.heap.size := ⟨_, rfl⟩
 obtain ⟨w2, hw2⟩ : ∃ q, q = w1.alloc (.cells #[.int .i64 10, .int .i64 1, .int .i64 0, .string ⟨#[]⟩, .bool false, .slice (some ⟨b0, o0, none⟩) 2 c1] 33) := ⟨_, rfl⟩
 rw [← hw2, ← hX1] at hx
 rw [← hw2] at hbx
 have HX1 := Lib.hid hx
 have HK0 := Lib.hid (cell_keep' hbx k0)
 have HK1 := Lib.hid (cell_keep' hbx k1)
 have HB2 := Lib.hid (below_next hb1 hbx)
 have HE2 := Lib.hid (HE.out.keep (below_next hb1 hbx))
 have HW2 := Lib.hid hw2
 have HN1 := Lib.hid hX1
 clear hx hbx hX1 hw2 k0 k1 hc0 hc1 hsl hbd hb1 hp1 hval hln KA
 have KB := Lib.hid (topE_any ⟨awB.toArray⟩ w2 HE2.out (by decide))
 go_wp2_with fail
 rw [← HN1.out, ← HW2.out]
 refine KB.out.mono ?_
 intro e w3 hp3
 obtain ⟨hb3, rfl⟩ := topE_awB hp3
 have hbx := below_box w3 (.cells #[.int .i64 0, .int .i64 0, .int .i64 0, .string ⟨#[]⟩, .bool false, .slice none 0 0] 33)
 obtain ⟨w4, hw4⟩ : ∃ q, q = w3.alloc (.cells #[.int .i64 0, .int .i64 0, .int .i64 0, .string ⟨#[]⟩, .bool false, .slice none 0 0] 33) := ⟨_, rfl⟩
 rw [← hw4] at hbx
 have HB24 := Lib.hid (below_next hb3 hbx)
 have HW4 := Lib.hid hw4
 have HE4 := Lib.hid (HE2.out.keep HB24.out)
 clear hb3 hbx hw4 hp3 KB HW2 HN1
 have KC := Lib.hid (topP_any ⟨awC.toArray⟩ w4 HE4.out (by decide))
 go_wp2_with fail
 rw [← HW4.out]
 refine KC.out.mono ?_
 intro e w5 hp5
 obtain ⟨hb5, v, rfl, hsl⟩ := topP_awC hp5
 obtain ⟨p3, c3, rfl⟩ := hsl.form
 have hln : awP.length = 1 := rfl
 rw [hln] at hsl ⊢
 obtain ⟨b3, o3, x3, y3, he3, _, hc3, _, hfl, hml⟩ := hsl.get (j := 0) (m := ⟨⟨#[67]⟩, false, [⟨#[120]⟩], []⟩) rfl
 cases he3
 obtain ⟨pf, cf, rfl⟩ := hfl.form
 have hB25 := below_next HB24.out hb5
 have k2 : w5.cell? ⟨b3, o3 + 2, none⟩ = some (.slice pf 1 cf) := hc3.2.2.1
 have k0 := cell_keep' hB25 HK0.out
 have k1 := cell_keep' hB25 HK1.out
 have hx1 := gr_at (gr_below hB25 none) HX1.out (fun h => by cases h)
 have hbx := below_box w5 (.cells #[.slice (some ⟨b3, o3, none⟩) 1 c3] 25)
 have hx3 := new_at (w := w5) (o := .cells #[.slice (some ⟨b3, o3, none⟩) 1 c3] 25) rfl
 obtain ⟨X3, hX3⟩ : ∃ q, q = w5.heap.size := ⟨_, rfl⟩
 obtain ⟨w6, hw6⟩ : ∃ q, q = w5.alloc (.cells #[.slice (some ⟨b3, o3, none⟩) 1 c3] 25) := ⟨_, rfl⟩
 rw [← hw6, ← hX3] at hx3
 rw [← hw6] at hbx
 have h0 := cell_keep' hbx k0
 have h1 := cell_keep' hbx k1
 have h2 := cell_keep' hbx k2
 have x1 := gr_at (gr_below hbx none) hx1 (fun h => by cases h)
 have c15 := cell_of_blkP x1 (j := 5) (u := .slice (some ⟨b0, o0, none⟩) 2 c1) rfl
 have c30 := cell_of_blkP hx3 (j := 0) (u := .slice (some ⟨b3, o3, none⟩) 1 c3) rfl
 have h1b : w6.cell? ⟨b0, o0 + 8, none⟩ = some (.int .i64 1) := h1
 have HB6 := Lib.hid (below_next HB2.out (below_next hB25 hbx))
 have HW6 := Lib.hid hw6
 have HN3 := Lib.hid hX3
 clear hx1 hbx hx3 hX3 hw6 k0 k1 k2 hc3 hfl hml hsl hB25 hb5 hp5 KC HW4 HK0 HK1 HX1 x1 hln
 go_upto_region 4 with fail
 rw [← HN3.out, ← HW6.out]
 go_wp2_with fail
 go_ret
 exact ⟨rfl, HB6.out⟩
end Go.Proofs.YtdckddkalgnlpaaGreatDoor
namespace Go.Proofs.YtdckddkalgnlpaaGreatDoor
namespace Pa
open Tr
def R.put (l : List C) : R (List C) → R (List C)
 | .ok a r => .ok (l ++ a) r
 | .bad r => .bad r
def PO (s : Bytes) (x : List C) (o er : Nat) : Prop :=
 (Lex.scan s = .bad o er ∧ x = []) ∨
 (∃ ts, Lex.scan s = .toks ts ∧ Ev (fun f => pP f [] (rest ts (ts.length - 1) 0)) (.ok x []) ∧ Sy.sizeP x ≤ 4000 ∧ o = 0 ∧ er = 0) ∨
 (∃ ts y, Lex.scan s = .toks ts ∧ Ev (fun f => pP f [] (rest ts (ts.length - 1) 0)) (.ok y []) ∧ 4000 < Sy.sizeP y ∧ x = [] ∧ o = 0 ∧ er = 8) ∨
 (∃ ts k t, Lex.scan s = .toks ts ∧ Ev (fun f => pP f [] (rest ts (ts.length - 1) 0)) (.bad (rest ts (ts.length - 1) k)) ∧ k ≤ ts.length - 1 ∧ ts[k]? = some t ∧ x = [] ∧ o = t.pos ∧ er = 3)
theorem PO.short {s : Bytes} {x : List C} {o er : Nat} (h : PO s x o er) {ts : List Lex.Tok} (hs : Lex.scan s = .toks ts) (hl : s.length ≤ 2000) :
 (Ev (fun f => pP f [] (rest ts (ts.length - 1) 0)) (.ok x []) ∧ o = 0 ∧ er = 0) ∨ (∃ k t, Ev (fun f => pP f [] (rest ts (ts.length - 1) 0)) (.bad (rest ts (ts.length - 1) k)) ∧ k ≤ ts.length - 1 ∧ ts[k]? = some t ∧ x = [] ∧ o = t.pos ∧ er = 3) := by
 rcases h with ⟨h, _⟩ | ⟨ts', h, h1, _, h2⟩ | ⟨ts', y, h, h1, h2, _⟩ | ⟨ts', k, t, h, h1, h2⟩
 ·rw [hs] at h; cases h
 ·rw [hs] at h; cases h; exact .inl ⟨h1, h2⟩
 ·rw [hs] at h; cases h
  have := read_prog_len hs h1
  omega
 ·rw [hs] at h; cases h; exact .inr ⟨k, t, h1, h2⟩
theorem PO.off {s : Bytes} {x : List C} {o er : Nat} (h : PO s x o er) {ts : List Lex.Tok} (hs : Lex.scan s = .toks ts) : o ≤ 1000000 := by
 rcases h with ⟨h, _⟩ | ⟨_, _, _, _, rfl, _⟩ | ⟨_, _, _, _, _, _, rfl, _⟩ | ⟨ts', k, t, h, _, _, ht, _, rfl, _⟩
 ·rw [hs] at h; cases h
 ·exact Nat.zero_le _
 ·exact Nat.zero_le _
 ·exact ((scan_tkl h).1.pos t (List.mem_of_getElem? ht)).1
theorem PO.len {s : Bytes} {x : List C} {o er : Nat} (h : PO s x o er) (hl : s.length ≤ 2000) : x.length ≤ 2000 := by
 have key : ∀ l : List C, l.length ≤ Sy.sizeP l := by
  intro l
  induction l with
  | nil => exact Nat.zero_le _
  | cons c l ih =>
    unfold Sy.sizeP Sy.sizeC at *
    rw [List.map_cons, List.sum_cons, List.length_cons]
    omega
 rcases h with ⟨_, h⟩ | ⟨ts', h, h1, _⟩ | ⟨_, _, _, _, _, h, _⟩ | ⟨_, _, _, _, _, _, _, h, _⟩
 ·rw [h]; exact Nat.zero_le _
 ·have := read_prog_len h h1
  have := key x
  omega
 all_goals rw [h]; exact Nat.zero_le _
theorem PO.lex {s : Bytes} {x : List C} {o er p e : Nat} (h : PO s x o er) (hs : Lex.scan s = .bad p e) : o = p ∧ er = e ∧ x = [] := by
 rcases h with ⟨h, h2⟩ | ⟨ts', h, _⟩ | ⟨ts', y, h, _⟩ | ⟨ts', k, t, h, _⟩
 ·rw [hs] at h; cases h; exact ⟨rfl, rfl, h2⟩
 all_goals rw [hs] at h; cases h
end Pa
end Go.Proofs.YtdckddkalgnlpaaGreatDoor
namespace Go.Proofs.YtdckddkalgnlpaaGreatDoor
open Go.RowKit Go.Maps Pw
theorem slC_nil (w : World) (p : Option Addr) (c : Nat) : SlC w (.slice p 0 c) [] := ⟨p, c, rfl, Nat.zero_le _, fun h => absurd rfl h, fun j n hj => by simp at hj⟩
theorem topP_po {s : ByteArray} {w w' : World} {e : Ending} (h : TopP s w e w') : Below w.heap.size w w' ∧ ∃ (x : List Tr.C) (p : Option Addr) (N c o er : Nat), e = .returned (.tuple #[.agg #[.slice p N c], .int .i64 o, .int .i64 er]) ∧ Hid (SlC w' (.slice p N c) x) ∧ Hid (Pa.PO s.data.toList x o er) := by
 obtain ⟨hb, ⟨a, er, h1, h2⟩ | ⟨ts, x, v, h1, h2, h3, h4, h5⟩ | ⟨ts, x, h1, h2, h3, h4⟩ | ⟨ts, k, t, h1, h2, hk, ht, h4⟩⟩ := h
 ·exact ⟨hb, [], none, 0, 0, a, er, h2, Lib.hid (slC_nil _ none 0), Lib.hid (.inl ⟨h1, rfl⟩)⟩
 ·obtain ⟨p, c, rfl⟩ := h5.form
  exact ⟨hb, x, p, _, c, 0, 0, h4, Lib.hid h5, Lib.hid (.inr (.inl ⟨ts, h1, h2, h3, rfl, rfl⟩))⟩
 ·exact ⟨hb, [], none, 0, 0, 0, 8, h4, Lib.hid (slC_nil _ none 0), Lib.hid (.inr (.inr (.inl ⟨ts, x, h1, h2, h3, rfl, rfl, rfl⟩)))⟩
 ·exact ⟨hb, [], none, 0, 0, t.pos, 3, h4, Lib.hid (slC_nil _ none 0), Lib.hid (.inr (.inr (.inr ⟨ts, k, t, h1, h2, hk, ht, rfl, rfl, rfl⟩)))⟩
structure JR (w6 : World) (tr : List CT) (v : Value) (W : World) : Prop where
 be : Below w6.heap.size w6 W
 own : W.ownsRow w6.heap.size 49 4 v tr.length (flatV cCells tr)
section
variable {w6 W : World} {tr : List CT} {v : Value}
theorem JR.ne (h : JR w6 tr v W) {B : Nat} {cs : Array Value} (hB : W.heap[B]? = some (.cells cs 25 (0, 0))) : v.ownBlock ≠ some B := fun e => by
 obtain ⟨_, cur, h2⟩ := own_ge h.own e
 rw [hB] at h2
 injection h2 with h2
 injection h2 with _ h3 _
 exact absurd h3 (by decide)
theorem JR.step (h : JR w6 tr v W) {l : List CT} {v2 : Value} (hsrc : SrcAt w6 cCells v2 l) (hrd : ∀ x ∈ l, ReadC w6 x.1 x.2.1 x.2.2) (hlen : tr.length + l.length ≤ 1000000) {ops : Array Oper} {E : Prop} {o : Oper} {a : Act} {K : Act → World → Prop} {Q : Exit → Act → World → Prop} (hgd : o.guard = none) (s x : Operand)
 (ho : o.op = .call { callee := .builtin .append, args := #[s, x], argTypes := #[23, 23] }) (hs : a.eval s = v) (hx : a.eval x = v2)
 (hk : ∀ (p : Option Addr) (N c : Nat) (W' : World), Hid ((tr ++ l).length = N) → Hid (JR w6 (tr ++ l) (.slice p N c) W') → Hid (∀ (B : Nat) (cs : Array Value), W.heap[B]? = some (.cells cs 25 (0, 0)) → W'.heap[B]? = some (.cells cs 25 (0, 0))) → K (a.put o.dst (.slice p N c)) W') : if Region.wanted o (yielded ops a.tmps) = true then Oper.wp Tryz.prog o a W K Q else E := by
 have hw : Region.wanted o (yielded ops a.tmps) = true := by simp [Region.wanted, hgd]
 rw [if_pos hw]
 obtain ⟨i, z, hi, hz, hs1, hb1, hc⟩ := tkC.inf
 have hsrc2 : SrcAt W cCells v2 l := by
  rcases hsrc with h1 | ⟨b, q, c, e, h1⟩
  ·exact .inl h1
  ·exact .inr ⟨b, q, c, e, fun j u hj => cell_keep' h.be (h1 j u hj)⟩
 have hm : (tr.length + l.length) * i.bytes ≤ 140737488355328 := Nat.le_trans (Nat.mul_le_mul hlen hb1) (by decide)
 refine wp_append_src cCells 4 cCells_len s x _ ho w6.heap.size 49 i z i.bytes tkC.und hi hz hs1 rfl hc (by decide) v v2 tr l hs hx h.own hsrc2 (cCells_one hrd) (by unfold maxLen; omega) hm h.be.size ?_
 intro v' W' h1 h2
 obtain ⟨p, c, rfl⟩ := own_form h1
 exact hk p _ c W' (Lib.hid rfl) (Lib.hid ⟨h.be.grown h2 h.be.size (fun q hq => (own_ge h.own hq).1), h1⟩) (Lib.hid fun B cs hB => gr_at h2 hB (fun e => h.ne hB e.symm))
end
end Go.Proofs.YtdckddkalgnlpaaGreatDoor
namespace Go.Proofs.YtdckddkalgnlpaaGreatDoor
namespace Pa
open Tr
inductive Lx : Bytes → List B → Prop
 | nil {s : Bytes} (h : Lex.skip false s = []) : Lx s []
 | tok {s : Bytes} {c : UInt8} {r : Bytes} {k : Nat} {t : Bytes} {v : Nat} {ts : List B} (h : Lex.skip false s = c :: r) (hn : Lex.next (c :: r) = .tok k t v) (ht : Lx ((c :: r).drop t.length) ts) : Lx s (⟨k, t, v⟩ :: ts)
theorem Lx.skip {s s' : Bytes} {ts : List B} (e : Lex.skip false s' = Lex.skip false s) (h : Lx s ts) : Lx s' ts := by
 cases h with
 | nil h => exact .nil (e.trans h)
 | tok h hn ht => exact .tok (e.trans h) hn ht
theorem lx_sp {s : Bytes} {ts : List B} (h : Lx s ts) : Lx (32 :: s) ts := Lx.skip (s := s) (show Lex.skip false (32 :: s) = Lex.skip false s from rfl) h
theorem Lx.tok' {c : UInt8} {r : Bytes} {k : Nat} {t : Bytes} {v : Nat} {ts : List B} {s : Bytes} (hk : Lex.skip false (c :: r) = c :: r) (hn : Lex.next (c :: r) = .tok k t v) (e : c :: r = t ++ s) (h : Lx s ts) : Lx (t ++ s) (⟨k, t, v⟩ :: ts) := by
 rw [e] at hk hn
 have hk2 : Lex.skip false (t ++ s) = c :: r := hk.trans e.symm
 refine .tok hk2 (by rw [e]; exact hn) ?_
 rw [e, List.drop_left]
 exact h
theorem sym_skip {c : UInt8} (r : Bytes) (h : Lex.space c = false) (h2 : c.toNat ≠ 35) : Lex.skip false (c :: r) = c :: r := by
 rw [Lex.skip, h, if_neg (by decide), if_neg h2]
end Pa
end Go.Proofs.YtdckddkalgnlpaaGreatDoor
namespace Go.Proofs.YtdckddkalgnlpaaGreatDoor
theorem skip_solid : ∀ (b : Bool) (l : List UInt8) {c : UInt8} {r : List UInt8}, Lex.skip b l = c :: r → Lex.space c = false ∧ c.toNat ≠ 35
 | true, [], _, _, h => by cases h
 | false, [], _, _, h => by cases h
 | true, x :: l, c, r, h => by
   rw [skip_t] at h
   split at h
   ·exact skip_solid false l h
   ·exact skip_solid true l h
 | false, x :: l, c, r, h => by
   rw [skip_f] at h
   split at h
   ·exact skip_solid false l h
   ·split at h
    ·exact skip_solid true l h
    ·rename_i h1 h2
     cases h
     exact ⟨by simpa using h1, h2⟩
namespace Pa
def W (t : Lex.Tok) : Prop := ∃ c r, t.text = c :: r ∧ Lex.space c = false ∧ c.toNat ≠ 35 ∧ Lex.next t.text = .tok t.kind t.text t.val
theorem W.lx {t : Lex.Tok} (h : W t) {s : Bytes} (hs : s = [] ∨ ∃ m, s = 32 :: m) {bs : List B} (hl : Lx s bs) : Lx (t.text ++ s) (tb t :: bs) := by
 obtain ⟨c, r, e, h1, h2, h3⟩ := h
 have hn : Lex.next (c :: (r ++ s)) = .tok t.kind t.text t.val := by
  rcases hs with rfl | ⟨m, rfl⟩
  ·rw [List.append_nil, ← e]; exact h3
  ·exact (next_ext (by decide) m c r).trans (by rw [← e]; exact h3)
 exact Lx.tok' (t := t.text) (sym_skip _ h1 h2) hn (by rw [e]; rfl) hl
theorem join_cons2 (x y : List UInt8) (l : List (List UInt8)) : Lib.join (x :: y :: l) [32] = x ++ 32 :: Lib.join (y :: l) [32] := by
 unfold Lib.join
 simp [List.intercalate, List.intersperse]
theorem lx_join : ∀ ts : List Lex.Tok, (∀ t ∈ ts, W t) → Lx (Lib.join (ts.map (·.text)) [32]) (ts.map tb)
 | [], _ => .nil rfl
 | [t], h => by
   have h1 := (h t (List.mem_singleton.2 rfl)).lx (.inl rfl) (.nil rfl)
   rw [List.append_nil] at h1
   show Lx (Lib.join [t.text] [32]) [tb t]
   rw [Lib.join_one]
   exact h1
 | t :: u :: r, h => by
   show Lx (Lib.join (t.text :: u.text :: r.map (·.text)) [32]) _
   rw [join_cons2]
   exact (h t (List.mem_cons_self ..)).lx (.inr ⟨_, rfl⟩) (lx_sp (lx_join (u :: r) (fun x hx => h x (List.mem_cons_of_mem _ hx))))
theorem Lx.scan {s : Bytes} {bs : List B} (h : Lx s bs) : ∀ (n f : Nat), (Lex.skip false s).length ≤ f → ∃ ts, Lex.scanF n f (Lex.skip false s) = .toks ts ∧ ts.length = bs.length + 1 ∧ (ts.take bs.length).map tb = bs := by
 induction h with
 | nil h => exact fun n f _ => ⟨[⟨0, [], 0, n⟩], by rw [h, Lex.scanF_nil], rfl, rfl⟩
 | @tok s c r k t v bs h hn _ ih =>
   intro n f hf
   rw [h] at hf ⊢
   cases f with
   | zero => simp at hf
   | succ f =>
     obtain ⟨_, hpos, _⟩ := Lex.next_text hn
     obtain ⟨ts, h1, h2, h3⟩ := ih n f (by
      refine Nat.le_trans (Lex.skip_le ..) ?_
      rw [List.length_drop]
      simp only [List.length_cons] at hf ⊢
      omega)
     have h4 := Lex.scanF_tok (n := n) (f := f) hn []
     rw [Lex.pre_nil, h1] at h4
     refine ⟨⟨k, t, v, n - (c :: r).length⟩ :: ts, h4, ?_, ?_⟩
     ·rw [List.length_cons, h2]
      rfl
     ·rw [List.length_cons, List.take_succ_cons, List.map_cons, h3]
      rfl
theorem scanF_words (n : Nat) : ∀ (f : Nat) (l : Bytes) (ts : List Lex.Tok), Lex.scanF n f (Lex.skip false l) = .toks ts → (∀ t ∈ ts, t.kind = 0 ∨ W t) ∧ ((texts ts).map fun x => x.length + 1).sum ≤ 2 * l.length := by
 intro f
 induction f with
 | zero =>
   intro l ts h
   cases hs : Lex.skip false l with
   | nil => rw [hs, Lex.scanF_nil] at h; cases h; exact ⟨fun t ht => by rw [List.mem_singleton.1 ht]; exact .inl rfl, Nat.zero_le _⟩
   | cons c r => rw [hs] at h; cases h
 | succ f ih =>
   intro l ts h
   cases hs : Lex.skip false l with
   | nil => rw [hs, Lex.scanF_nil] at h; cases h; exact ⟨fun t ht => by rw [List.mem_singleton.1 ht]; exact .inl rfl, Nat.zero_le _⟩
   | cons c r =>
     rw [hs] at h
     cases hn : Lex.next (c :: r) with
     | bad e => rw [Lex.scanF_bad hn] at h; cases h
     | tok k t v =>
       have h4 := Lex.scanF_tok (n := n) (f := f) hn []
       rw [Lex.pre_nil, h] at h4
       have hl := Lex.skip_le false l
       rw [hs] at hl
       cases h5 : Lex.scanF n f (Lex.skip false ((c :: r).drop t.length)) with
       | bad a e => rw [h5] at h4; cases h4
       | toks us =>
         rw [h5] at h4
         injection h4 with h4
         have h4 : ts = ⟨k, t, v, n - (c :: r).length⟩ :: us := h4
         obtain ⟨i1, i2⟩ := ih _ us h5
         obtain ⟨h6, hpos, hle⟩ := Lex.next_text hn
         have hcut := next_cut 0 hn
         have htk : (c :: r).take t.length = t := h6.symm
         rw [Nat.add_zero, htk] at hcut
         rw [List.length_drop] at i2
         refine ⟨fun x hx => ?_, ?_⟩
         ·rw [h4] at hx
          rcases List.mem_cons.1 hx with rfl | hx
          ·right
           obtain ⟨s1, s2⟩ := skip_solid false l hs
           have : t = c :: t.tail := by
            rw [← htk]
            cases hq : t.length with
            | zero => omega
            | succ q => rw [List.take_succ_cons]; rfl
           exact ⟨c, t.tail, this, s1, s2, hcut⟩
          ·exact i1 x hx
         ·rw [h4]
          have hk := next_kind hn
          have e : texts (⟨k, t, v, n - (c :: r).length⟩ :: us) = t :: texts us := by
           unfold texts
           rw [List.filter_cons, if_pos (by simpa using hk)]
           rfl
          rw [e, List.map_cons, List.sum_cons]
          omega
theorem join_len : ∀ l : List (List UInt8), (Lib.join l [32]).length ≤ (l.map fun x => x.length + 1).sum
 | [] => Nat.zero_le _
 | [x] => by rw [Lib.join_one]; simp
 | x :: y :: l => by
   rw [join_cons2, List.length_append, List.length_cons, List.map_cons, List.sum_cons]
   have := join_len (y :: l)
   omega
theorem spaces {s : Bytes} {ts : List Lex.Tok} (h : Lex.scan s = .toks ts) (hl : s.length ≤ 400) : (fmtL ts).length ≤ 800 ∧ ∃ ts', Lex.scan (fmtL ts) = .toks ts' ∧ rest ts' (ts'.length - 1) 0 = rest ts (ts.length - 1) 0 := by
 have hs : Lex.scanF s.length s.length (Lex.skip false s) = .toks ts := by
  unfold Lex.scan at h
  rw [if_neg (by omega)] at h
  exact h
 obtain ⟨h1, h2⟩ := scanF_words _ _ _ _ hs
 have h3 : (fmtL ts).length ≤ 800 := Nat.le_trans (join_len _) (by omega)
 obtain ⟨hT, _, h0, _⟩ := scan_tkl h
 have hlast := scan_last h
 have e1 : ts.filter (fun t => decide (t.kind ≠ 0)) = ts.take (ts.length - 1) := by
  have hd : ts.dropLast = ts.take (ts.length - 1) := List.dropLast_eq_take
  rw [← hd]
  conv => lhs; rw [hlast]
  rw [List.filter_append, List.filter_eq_self.2 (fun t ht => ?_)]
  ·simp
  ·rw [hd] at ht
   obtain ⟨j, hj⟩ := List.mem_iff_getElem?.1 ht
   have hlt : j < ts.length - 1 := by
    have := (List.getElem?_eq_some_iff.1 hj).1
    rw [List.length_take] at this
    omega
   rw [List.getElem?_take, if_pos hlt] at hj
   exact decide_eq_true (hT.kind j t hlt hj)
 have hL : Lx (fmtL ts) (rest ts (ts.length - 1) 0) := by
  have hj := lx_join (ts.take (ts.length - 1)) (fun t ht => by
   rcases h1 t (List.mem_of_mem_take ht) with h5 | h5
   ·rw [← e1] at ht
    exact absurd h5 (of_decide_eq_true (List.mem_filter.1 ht).2)
   ·exact h5)
  unfold fmtL texts
  rw [e1]
  exact hj
 obtain ⟨ts', h5, h6, h7⟩ := hL.scan (fmtL ts).length (fmtL ts).length (Lex.skip_le ..)
 refine ⟨h3, ts', ?_, ?_⟩
 ·unfold Lex.scan
  rw [if_neg (by omega)]
  exact h5
 ·rw [h6, Nat.add_sub_cancel]
  exact h7
theorem PO.same {s t : Bytes} {x y : List Tr.C} {o er o' er' : Nat} (h : PO s x o er) (h' : PO t y o' er') {ts ts' : List Lex.Tok} (hs : Lex.scan s = .toks ts) (ht : Lex.scan t = .toks ts') (hl : s.length ≤ 2000) (hl' : t.length ≤ 2000) (e : rest ts' (ts'.length - 1) 0 = rest ts (ts.length - 1) 0) : x = y ∧ er = er' := by
 have h2 := h'.short ht hl'
 rw [e] at h2
 rcases h.short hs hl with ⟨a, _, rfl⟩ | ⟨k, u, a, _, _, rfl, _, rfl⟩
 ·rcases h2 with ⟨b, _, rfl⟩ | ⟨k', u', b, _, _, rfl, _, rfl⟩
  ·have := a.det b
   injection this with this
   exact ⟨this, rfl⟩
  ·have := a.det b
   cases this
 ·rcases h2 with ⟨b, _, rfl⟩ | ⟨k', u', b, _, _, rfl, _, rfl⟩
  ·have := a.det b
   cases this
  ·exact ⟨rfl, rfl⟩
def zeroE : Tr.E := .mk 0 0 0 ⟨#[]⟩ false []
def EO (s : Bytes) (x : Tr.E) (o er : Nat) : Prop :=
 (Lex.scan s = .bad o er ∧ x = zeroE) ∨
 (∃ ts, Lex.scan s = .toks ts ∧ Ev (fun f => pX f (rest ts (ts.length - 1) 0)) (.ok x []) ∧ Sy.sizeE x ≤ 4000 ∧ o = 0 ∧ er = 0) ∨
 (∃ ts y, Lex.scan s = .toks ts ∧ Ev (fun f => pX f (rest ts (ts.length - 1) 0)) (.ok y []) ∧ 4000 < Sy.sizeE y ∧ x = zeroE ∧ o = 0 ∧ er = 8) ∨
 (∃ ts k t, Lex.scan s = .toks ts ∧ Ev (fun f => pX f (rest ts (ts.length - 1) 0)) (.bad (rest ts (ts.length - 1) k)) ∧ k ≤ ts.length - 1 ∧ ts[k]? = some t ∧ x = zeroE ∧ o = t.pos ∧ er = 3)
theorem EO.same {s t : Bytes} {x y : Tr.E} {o er o' er' : Nat} (h : EO s x o er) (h' : EO t y o' er') {ts ts' : List Lex.Tok} (hs : Lex.scan s = .toks ts) (ht : Lex.scan t = .toks ts') (e : rest ts' (ts'.length - 1) 0 = rest ts (ts.length - 1) 0) : x = y ∧ er = er' := by
 rcases h with ⟨h, _⟩ | ⟨us, h, a, s1, _, rfl⟩ | ⟨us, z, h, a, s1, rfl, _, rfl⟩ | ⟨us, k, u, h, a, _, _, rfl, _, rfl⟩
 ·rw [hs] at h; cases h
 all_goals
  rw [hs] at h
  cases h
  rcases h' with ⟨h, _⟩ | ⟨us', h, b, s2, _, rfl⟩ | ⟨us', z', h, b, s2, rfl, _, rfl⟩ | ⟨us', k', u', h, b, _, _, rfl, _, rfl⟩
  ·rw [ht] at h; cases h
  all_goals
   rw [ht] at h
   cases h
   rw [e] at b
   have hd := a.det b
   first
    | (injection hd with hd; subst hd; first | exact ⟨rfl, rfl⟩ | omega)
    | exact ⟨rfl, rfl⟩
    | (cases hd; done)
end Pa
end Go.Proofs.YtdckddkalgnlpaaGreatDoor
namespace Go.Proofs.YtdckddkalgnlpaaGreatDoor
open Go.RowKit Go.Maps Pw
theorem topE_eo {s : ByteArray} {w w' : World} {e : Ending} (h : TopE s w e w') : Below w.heap.size w w' ∧ ∃ (x : Tr.E) (p : Option Addr) (N c o er : Nat), e = .returned (.tuple #[.agg #[.int .i64 x.kind, .int .i64 x.op, .int .i64 x.int, .string x.name, .bool x.at_, .slice p N c], .int .i64 o, .int .i64 er]) ∧ Hid (SlE w' (.slice p N c) x.args) ∧ Hid (Pa.EO s.data.toList x o er) := by
 obtain ⟨hb, ⟨a, er, h1, h2⟩ | ⟨ts, x, v, h1, h2, h3, h4, h5⟩ | ⟨ts, x, h1, h2, h3, h4⟩ | ⟨ts, k, t, h1, h2, hk, ht, h4⟩⟩ := h
 ·exact ⟨hb, Pa.zeroE, none, 0, 0, a, er, h2, Lib.hid (.nil none 0), Lib.hid (.inl ⟨h1, rfl⟩)⟩
 ·obtain ⟨a, rfl, _, h6⟩ := h5
  obtain ⟨p, c, rfl, _⟩ := h6.form
  exact ⟨hb, x, p, _, c, 0, 0, h4, Lib.hid h6, Lib.hid (.inr (.inl ⟨ts, h1, h2, h3, rfl, rfl⟩))⟩
 ·exact ⟨hb, Pa.zeroE, none, 0, 0, 0, 8, h4, Lib.hid (.nil none 0), Lib.hid (.inr (.inr (.inl ⟨ts, x, h1, h2, h3, rfl, rfl, rfl⟩)))⟩
 ·exact ⟨hb, Pa.zeroE, none, 0, 0, t.pos, 3, h4, Lib.hid (.nil none 0), Lib.hid (.inr (.inr (.inr ⟨ts, k, t, h1, h2, hk, ht, rfl, rfl, rfl⟩)))⟩
end Go.Proofs.YtdckddkalgnlpaaGreatDoor
