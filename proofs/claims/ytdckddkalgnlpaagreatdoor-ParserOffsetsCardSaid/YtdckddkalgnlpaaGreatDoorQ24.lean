/-
  Several texts in one: PbAw, PbLawOff, PaEnv, PaCardBase.
-/
import Derived.Test.YtdckddkalgnlpaaGreatDoorQ23
import Derived.Test.YtdckddkalgnlpaaGreatDoorQ2
import Derived.Test.YtdckddkalgnlpaaGreatDoorCards
import Derived.ProofKit
import Derived.OpenShut
import Derived.SliceStrings
import Derived.LaidLaws
import Derived.Test.YtdckddkalgnlpaaGreatDoorTie
import Derived.Below
import Derived.ChangeSame
import Derived.Deep.DeepHandedRow
import Derived.Deep.DeepWitnessRowRef
import Derived.Lib.LaidTab
namespace Go.Proofs.YtdckddkalgnlpaaGreatDoor
open Go.RowKit Go.Maps Pw
def awA : List UInt8 := [97, 32, 45, 32, 98, 32, 45, 32, 49]
def awB : List UInt8 := [97, 32, 60, 32, 98, 32, 60, 32, 99]
def awC : List UInt8 := [114, 101, 99, 111, 114, 100, 32, 67, 32, 123, 32, 118, 97, 114, 32, 120, 59, 32, 125]
def awTA : List Lex.Tok := [⟨2, [97], 0, 0⟩, ⟨5, [45], 0, 2⟩, ⟨2, [98], 0, 4⟩, ⟨5, [45], 0, 6⟩, ⟨1, [49], 1, 8⟩, ⟨0, [], 0, 9⟩]
def awTB : List Lex.Tok := [⟨2, [97], 0, 0⟩, ⟨5, [60], 0, 2⟩, ⟨2, [98], 0, 4⟩, ⟨5, [60], 0, 6⟩, ⟨2, [99], 0, 8⟩, ⟨0, [], 0, 9⟩]
def awTC : List Lex.Tok := [⟨4, [114, 101, 99, 111, 114, 100], 0, 0⟩, ⟨3, [67], 0, 7⟩, ⟨5, [123], 0, 9⟩, ⟨4, [118, 97, 114], 0, 11⟩, ⟨2, [120], 0, 15⟩, ⟨5, [59], 0, 16⟩, ⟨5, [125], 0, 18⟩, ⟨0, [], 0, 19⟩]
theorem awA_scan : Lex.scan awA = .toks awTA := by decide +kernel
theorem awB_scan : Lex.scan awB = .toks awTB := by decide +kernel
theorem awC_scan : Lex.scan awC = .toks awTC := by decide +kernel
def awE : Tr.E := Pa.bin 1 (Pa.bin 1 (Pa.var ⟨#[97]⟩) (Pa.var ⟨#[98]⟩)) (Pa.num 1)
def awP : List Tr.C := [⟨⟨#[67]⟩, false, [⟨#[120]⟩], []⟩]
theorem awA_parse (f : Nat) : Pa.pX (f + 30) (Pa.rest awTA 5 0) = .ok awE [] := by kernel_rfl
theorem awB_parse (f : Nat) : Pa.pX (f + 30) (Pa.rest awTB 5 0) = .bad (Pa.rest awTB 5 3) := by kernel_rfl
theorem awC_parse (f : Nat) : Pa.pP (f + 30) [] (Pa.rest awTC 7 0) = .ok awP [] := by kernel_rfl
theorem Pa.Ev.at {α : Type} {p : Nat → Pa.R α} {x : Pa.R α} (N : Nat) (h : ∀ f, p (f + N) = x) : Pa.Ev p x := ⟨N, fun f hf => by
  obtain ⟨g, rfl⟩ : ∃ g, f = g + N := ⟨f - N, by omega⟩
  exact h g⟩
theorem topE_awA {w w' : World} {e : Ending} (h : TopE ⟨awA.toArray⟩ w e w') : Below w.heap.size w w' ∧ ∃ v, e = .returned (.tuple #[v, .int .i64 0, .int .i64 0]) ∧ rdE w' v awE := by
  have hs : Lex.scan (⟨awA.toArray⟩ : ByteArray).data.toList = .toks awTA := awA_scan
  have hev : Pa.Ev (fun f => Pa.pX f (Pa.rest awTA (awTA.length - 1) 0)) (.ok awE []) := .at 30 awA_parse
  obtain ⟨hb, ⟨a, er, h1, _⟩ | ⟨ts, x, v, h1, h2, _, h4, h5⟩ | ⟨ts, x, h1, h2, h3, _⟩ | ⟨ts, k, t, h1, h2, _⟩⟩ := h
  · rw [hs] at h1; cases h1
  · rw [hs] at h1; cases h1
    have := hev.det h2
    cases this
    exact ⟨hb, v, h4, h5⟩
  · rw [hs] at h1; cases h1
    have := hev.det h2
    cases this
    exact absurd h3 (by decide)
  · rw [hs] at h1; cases h1
    have := hev.det h2
    cases this
theorem topE_awB {w w' : World} {e : Ending} (h : TopE ⟨awB.toArray⟩ w e w') : Below w.heap.size w w' ∧ e = .returned (.tuple #[.agg #[.int .i64 0, .int .i64 0, .int .i64 0, .string ⟨#[]⟩, .bool false, .slice none 0 0], .int .i64 6, .int .i64 3]) := by
  have hs : Lex.scan (⟨awB.toArray⟩ : ByteArray).data.toList = .toks awTB := awB_scan
  have hev : Pa.Ev (fun f => Pa.pX f (Pa.rest awTB (awTB.length - 1) 0)) (.bad (Pa.rest awTB 5 3)) := .at 30 awB_parse
  obtain ⟨hb, ⟨a, er, h1, _⟩ | ⟨ts, x, v, h1, h2, _, h4, h5⟩ | ⟨ts, x, h1, h2, h3, _⟩ | ⟨ts, k, t, h1, h2, hk, ht, h4⟩⟩ := h
  · rw [hs] at h1; cases h1
  · rw [hs] at h1; cases h1
    have := hev.det h2
    cases this
  · rw [hs] at h1; cases h1
    have := hev.det h2
    cases this
  · rw [hs] at h1; cases h1
    have h6 := hev.det h2
    injection h6 with h6
    have hT := (scan_tkl awB_scan).1
    have h7 := Pa.rest_inj hT (j := 3) (k := k) (by decide) hk h6
    subst h7
    cases ht
    exact ⟨hb, h4⟩
theorem topP_awC {w w' : World} {e : Ending} (h : TopP ⟨awC.toArray⟩ w e w') : Below w.heap.size w w' ∧ ∃ v, e = .returned (.tuple #[.agg #[v], .int .i64 0, .int .i64 0]) ∧ SlC w' v awP := by
  have hs : Lex.scan (⟨awC.toArray⟩ : ByteArray).data.toList = .toks awTC := awC_scan
  have hev : Pa.Ev (fun f => Pa.pP f [] (Pa.rest awTC (awTC.length - 1) 0)) (.ok awP []) := .at 30 awC_parse
  obtain ⟨hb, ⟨a, er, h1, _⟩ | ⟨ts, x, v, h1, h2, _, h4, h5⟩ | ⟨ts, x, h1, h2, h3, _⟩ | ⟨ts, k, t, h1, h2, _⟩⟩ := h
  · rw [hs] at h1; cases h1
  · rw [hs] at h1; cases h1
    have := hev.det h2
    cases this
    exact ⟨hb, v, h4, h5⟩
  · rw [hs] at h1; cases h1
    have := hev.det h2
    cases this
    exact absurd h3 (by decide)
  · rw [hs] at h1; cases h1
    have := hev.det h2
    cases this
set_option maxRecDepth 100000 in
set_option maxHeartbeats 4000000 in
theorem awake39_any (w : World) (hE : LexEnv w) : Calls Tryz.prog 9 #[] w fun e w' => e = .returned (.bool true) ∧ Below w.heap.size w w' := by
  have HE := Lib.hid hE
  clear hE
  have KA := Lib.hid (topE_any ⟨awA.toArray⟩ w HE.out (by decide))
  go_enter Tryz.func9, Tryz.ntmps9
  go_wp2_with fail
  refine KA.out.mono ?_
  intro e w1 hp1
  obtain ⟨hb1, v, rfl, a, rfl, hbd, hsl⟩ := topE_awA hp1
  obtain ⟨p1, c1, rfl, _⟩ := hsl.form
  have hln : awE.args.length = 2 := rfl
  rw [hln] at hsl ⊢
  obtain ⟨b0, o0, a0, he0, _, hc0, _, _⟩ := hsl.get (j := 0) (e := Pa.bin 1 (Pa.var ⟨#[97]⟩) (Pa.var ⟨#[98]⟩)) rfl
  cases he0
  obtain ⟨b1', o1', a1', he1, _, hc1, _, _⟩ := hsl.get (j := 1) (e := Pa.num 1) rfl
  cases he1
  have hval : exprV awE (.slice (some ⟨b0, o0, none⟩) 2 c1) = .agg #[.int .i64 10, .int .i64 1, .int .i64 0, .string ⟨#[]⟩, .bool false, .slice (some ⟨b0, o0, none⟩) 2 c1] := rfl
  rw [hval]
  have k0 : w1.cell? ⟨b0, o0, none⟩ = some (.int .i64 10) := hc0.1
  have k1 : w1.cell? ⟨b0, o0 + 6 + 2, none⟩ = some (.int .i64 1) := by
    have := hc1.2.2.1
    rw [Nat.one_mul] at this
    exact this
  have hbx := below_box w1 (.cells #[.int .i64 10, .int .i64 1, .int .i64 0, .string ⟨#[]⟩, .bool false, .slice (some ⟨b0, o0, none⟩) 2 c1] 33)
  have hx := new_at (w := w1) (o := .cells #[.int .i64 10, .int .i64 1, .int .i64 0, .string ⟨#[]⟩, .bool false, .slice (some ⟨b0, o0, none⟩) 2 c1] 33) rfl
  obtain ⟨X1, hX1⟩ : ∃ q, q = w1.heap.size := ⟨_, rfl⟩
  obtain ⟨w2, hw2⟩ : ∃ q, q = w1.alloc (.cells #[.int .i64 10, .int .i64 1, .int .i64 0, .string ⟨#[]⟩, .bool false, .slice (some ⟨b0, o0, none⟩) 2 c1] 33) := ⟨_, rfl⟩
  rw [← hw2, ← hX1] at hx
  rw [← hw2] at hbx
  have HX1 := Lib.hid hx
  have HK0 := Lib.hid (cell_keep' hbx k0)
  have HK1 := Lib.hid (cell_keep' hbx k1)
  have HB2 := Lib.hid (below_next hb1 hbx)
  have HE2 := Lib.hid (HE.out.keep (below_next hb1 hbx))
  have HW2 := Lib.hid hw2
  have HN1 := Lib.hid hX1
  clear hx hbx hX1 hw2 k0 k1 hc0 hc1 hsl hbd hb1 hp1 hval hln KA
  have KB := Lib.hid (topE_any ⟨awB.toArray⟩ w2 HE2.out (by decide))
  go_wp2_with fail
  rw [← HN1.out, ← HW2.out]
  refine KB.out.mono ?_
  intro e w3 hp3
  obtain ⟨hb3, rfl⟩ := topE_awB hp3
  have hbx := below_box w3 (.cells #[.int .i64 0, .int .i64 0, .int .i64 0, .string ⟨#[]⟩, .bool false, .slice none 0 0] 33)
  obtain ⟨w4, hw4⟩ : ∃ q, q = w3.alloc (.cells #[.int .i64 0, .int .i64 0, .int .i64 0, .string ⟨#[]⟩, .bool false, .slice none 0 0] 33) := ⟨_, rfl⟩
  rw [← hw4] at hbx
  have HB24 := Lib.hid (below_next hb3 hbx)
  have HW4 := Lib.hid hw4
  have HE4 := Lib.hid (HE2.out.keep HB24.out)
  clear hb3 hbx hw4 hp3 KB HW2 HN1
  have KC := Lib.hid (topP_any ⟨awC.toArray⟩ w4 HE4.out (by decide))
  go_wp2_with fail
  rw [← HW4.out]
  refine KC.out.mono ?_
  intro e w5 hp5
  obtain ⟨hb5, v, rfl, hsl⟩ := topP_awC hp5
  obtain ⟨p3, c3, rfl⟩ := hsl.form
  have hln : awP.length = 1 := rfl
  rw [hln] at hsl ⊢
  obtain ⟨b3, o3, x3, y3, he3, _, hc3, _, hfl, hml⟩ := hsl.get (j := 0) (m := ⟨⟨#[67]⟩, false, [⟨#[120]⟩], []⟩) rfl
  cases he3
  obtain ⟨pf, cf, rfl⟩ := hfl.form
  have hB25 := below_next HB24.out hb5
  have k2 : w5.cell? ⟨b3, o3 + 2, none⟩ = some (.slice pf 1 cf) := hc3.2.2.1
  have k0 := cell_keep' hB25 HK0.out
  have k1 := cell_keep' hB25 HK1.out
  have hx1 := gr_at (gr_below hB25 none) HX1.out (fun h => by cases h)
  have hbx := below_box w5 (.cells #[.slice (some ⟨b3, o3, none⟩) 1 c3] 25)
  have hx3 := new_at (w := w5) (o := .cells #[.slice (some ⟨b3, o3, none⟩) 1 c3] 25) rfl
  obtain ⟨X3, hX3⟩ : ∃ q, q = w5.heap.size := ⟨_, rfl⟩
  obtain ⟨w6, hw6⟩ : ∃ q, q = w5.alloc (.cells #[.slice (some ⟨b3, o3, none⟩) 1 c3] 25) := ⟨_, rfl⟩
  rw [← hw6, ← hX3] at hx3
  rw [← hw6] at hbx
  have h0 := cell_keep' hbx k0
  have h1 := cell_keep' hbx k1
  have h2 := cell_keep' hbx k2
  have x1 := gr_at (gr_below hbx none) hx1 (fun h => by cases h)
  have c15 := cell_of_blkP x1 (j := 5) (u := .slice (some ⟨b0, o0, none⟩) 2 c1) rfl
  have c30 := cell_of_blkP hx3 (j := 0) (u := .slice (some ⟨b3, o3, none⟩) 1 c3) rfl
  have h1b : w6.cell? ⟨b0, o0 + 8, none⟩ = some (.int .i64 1) := h1
  have HB6 := Lib.hid (below_next HB2.out (below_next hB25 hbx))
  have HW6 := Lib.hid hw6
  have HN3 := Lib.hid hX3
  clear hx1 hbx hx3 hX3 hw6 k0 k1 k2 hc3 hfl hml hsl hB25 hb5 hp5 KC HW4 HK0 HK1 HX1 x1 hln
  go_upto_region 4 with fail
  rw [← HN3.out, ← HW6.out]
  go_wp2_with fail
  go_ret
  exact ⟨rfl, HB6.out⟩
end Go.Proofs.YtdckddkalgnlpaaGreatDoor
namespace Go.Proofs.YtdckddkalgnlpaaGreatDoor
open Go.RowKit Go.Maps Pw
theorem topP_short {s : ByteArray} {w w' : World} {e : Ending} {ts : List Lex.Tok} (hs : s.size ≤ 400) (hsc : Lex.scan s.data.toList = .toks ts) (h : TopP s w e w') : Below w.heap.size w w' ∧ ∃ p N c, e = .returned (.tuple #[.agg #[.slice p N c], .int .i64 0, .int .i64 0]) ∨
    ∃ k t, k ≤ ts.length - 1 ∧ ts[k]? = some t ∧ Pa.Ev (fun f => Pa.pP f [] (Pa.rest ts (ts.length - 1) 0)) (.bad (Pa.rest ts (ts.length - 1) k)) ∧ e = .returned (.tuple #[.agg #[.slice p N c], .int .i64 t.pos, .int .i64 3]) := by
  obtain ⟨hb, ⟨a, er, h1, _⟩ | ⟨ts', x, v, h1, h2, _, h4, h5⟩ | ⟨ts', x, h1, h2, h3, _⟩ | ⟨ts', k, t, h1, h2, hk, ht, h4⟩⟩ := h
  · rw [hsc] at h1; cases h1
  · obtain ⟨p, c, rfl⟩ := h5.form
    exact ⟨hb, p, _, c, .inl h4⟩
  · rw [hsc] at h1; cases h1
    have h6 := read_prog_len hsc h2
    rw [← Lib.size_eq] at h6
    omega
  · rw [hsc] at h1; cases h1
    exact ⟨hb, none, 0, 0, .inr ⟨k, t, hk, ht, h2, h4⟩⟩
theorem topE_short {s : ByteArray} {w w' : World} {e : Ending} {ts : List Lex.Tok} (hs : s.size ≤ 400) (hsc : Lex.scan s.data.toList = .toks ts) (h : TopE s w e w') : Below w.heap.size w w' ∧ ∃ kd o i nm a p N c, e = .returned (.tuple #[.agg #[.int .i64 kd, .int .i64 o, .int .i64 i, .string nm, .bool a, .slice p N c], .int .i64 0, .int .i64 0]) ∨
    ∃ k t, k ≤ ts.length - 1 ∧ ts[k]? = some t ∧ Pa.Ev (fun f => Pa.pX f (Pa.rest ts (ts.length - 1) 0)) (.bad (Pa.rest ts (ts.length - 1) k)) ∧ e = .returned (.tuple #[.agg #[.int .i64 kd, .int .i64 o, .int .i64 i, .string nm, .bool a, .slice p N c], .int .i64 t.pos, .int .i64 3]) := by
  obtain ⟨hb, ⟨a, er, h1, _⟩ | ⟨ts', x, v, h1, h2, _, h4, h5⟩ | ⟨ts', x, h1, h2, h3, _⟩ | ⟨ts', k, t, h1, h2, hk, ht, h4⟩⟩ := h
  · rw [hsc] at h1; cases h1
  · obtain ⟨a, rfl, _, h6⟩ := h5
    obtain ⟨p, c, rfl, _⟩ := h6.form
    exact ⟨hb, _, _, _, _, _, p, _, c, .inl h4⟩
  · rw [hsc] at h1; cases h1
    have h6 := read_expr_len hsc (pX_ok h2)
    rw [← Lib.size_eq] at h6
    omega
  · rw [hsc] at h1; cases h1
    exact ⟨hb, 0, 0, 0, ⟨#[]⟩, false, none, 0, 0, .inr ⟨k, t, hk, ht, h2, h4⟩⟩
set_option maxRecDepth 100000 in
set_option maxHeartbeats 2000000 in
theorem off_far (s : ByteArray) (w : World) (hE : LexEnv w) (hf : 400 < s.size) : Calls Tryz.prog 5 #[.string s] w fun e w' => e = .returned (.bool true) ∧ Below w.heap.size w w' := by
  have KA := Lib.hid (awake39_any w hE)
  clear hE
  go_enter Tryz.func5, Tryz.ntmps5
  go_wp2_with fail
  refine KA.out.mono ?_
  rintro e w1 ⟨rfl, hb1⟩
  go_wp2_with fail
  go_ret
  exact ⟨rfl, hb1⟩
theorem post_badP {s : ByteArray} {w w' : World} {e : Ending} {a er : Nat} (h : TopP s w e w') (hsc : Lex.scan s.data.toList = .bad a er) : e = .returned (.tuple #[.agg #[.slice none 0 0], .int .i64 a, .int .i64 er]) ∧ Below w.heap.size w w' := by
  obtain ⟨hb, ⟨a', er', h1, h2⟩ | ⟨ts', x, v, h1, _⟩ | ⟨ts', x, h1, _⟩ | ⟨ts', k, t, h1, _⟩⟩ := h
  · rw [hsc] at h1; cases h1; exact ⟨h2, hb⟩
  all_goals rw [hsc] at h1; cases h1
theorem post_badE {s : ByteArray} {w w' : World} {e : Ending} {a er : Nat} (h : TopE s w e w') (hsc : Lex.scan s.data.toList = .bad a er) : e = .returned (.tuple #[.agg #[.int .i64 0, .int .i64 0, .int .i64 0, .string ⟨#[]⟩, .bool false, .slice none 0 0], .int .i64 a, .int .i64 er]) ∧ Below w.heap.size w w' := by
  obtain ⟨hb, ⟨a', er', h1, h2⟩ | ⟨ts', x, v, h1, _⟩ | ⟨ts', x, h1, _⟩ | ⟨ts', k, t, h1, _⟩⟩ := h
  · rw [hsc] at h1; cases h1; exact ⟨h2, hb⟩
  all_goals rw [hsc] at h1; cases h1
set_option maxRecDepth 100000 in
set_option maxHeartbeats 2000000 in
theorem off_bad (s : ByteArray) (w : World) (hE : LexEnv w) (hs : s.size ≤ 400) (a er : Nat) (hsc : Lex.scan s.data.toList = .bad a er) : Calls Tryz.prog 5 #[.string s] w fun e w' => e = .returned (.bool true) ∧ Below w.heap.size w w' := by
  have hn1 : s.size ≤ 9223372036854775800 := by omega
  have hpos : 0 < er := scan_badpos hsc
  have hne : ((er : Int) != 0) = true := by rw [bne_iff_ne]; omega
  have HE := Lib.hid hE
  have HSC := Lib.hid hsc
  have KA := Lib.hid (awake39_any w hE)
  clear hE hsc hpos
  go_enter Tryz.func5, Tryz.ntmps5
  go_wp2_with fail
  refine KA.out.mono ?_
  rintro e w1 ⟨rfl, hb1⟩
  have HE1 := Lib.hid (HE.out.keep hb1)
  have HB1 := Lib.hid hb1
  clear hb1 KA
  go_wp2_with fail
  refine (scan_bad s a er w1 HE1.out hn1 HSC.out).mono ?_
  rintro e w2 ⟨rfl, hb2⟩
  have HE2 := Lib.hid (HE1.out.keep hb2)
  have HB2 := Lib.hid (below_next HB1.out hb2)
  clear hb2
  go_wp2_with fail
  refine (topP_any s w2 HE2.out hn1).mono ?_
  intro e w3 hp3
  obtain ⟨rfl, hb3⟩ := post_badP hp3 HSC.out
  have hbx := below_box w3 (.cells #[.slice none 0 0] 25)
  obtain ⟨w4, hw4⟩ : ∃ q, q = w3.alloc (.cells #[.slice none 0 0] 25) := ⟨_, rfl⟩
  rw [← hw4] at hbx
  have HW4 := Lib.hid hw4
  have HE4 := Lib.hid ((HE2.out.keep hb3).keep hbx)
  have HB4 := Lib.hid (below_next HB2.out (below_next hb3 hbx))
  clear hp3 hb3 hbx hw4
  go_wp2_with fail
  rw [← HW4.out]
  refine (topE_any s w4 HE4.out hn1).mono ?_
  intro e w5 hp5
  obtain ⟨rfl, hb5⟩ := post_badE hp5 HSC.out
  have HB5 := Lib.hid (below_next HB4.out hb5)
  clear hp5 hb5
  go_wp2_with fail
  go_ret
  exact ⟨rfl, HB5.out.alloc HB5.out.size _⟩
set_option maxRecDepth 100000 in
set_option maxHeartbeats 8000000 in
theorem off_toks (s : ByteArray) (w : World) (hE : LexEnv w) (hs : s.size ≤ 400) (ts : List Lex.Tok) (hsc : Lex.scan s.data.toList = .toks ts) : Calls Tryz.prog 5 #[.string s] w fun e w' => e = .returned (.bool true) ∧ Below w.heap.size w w' := by
  have hn1 : s.size ≤ 9223372036854775800 := by omega
  have HE0 := Lib.hid hE
  have HB0 := Lib.hid (Below.refl w.heap.size w)
  have HSC := Lib.hid hsc
  have KA := Lib.hid (awake39_any w hE)
  have hl0 := (scan_tkl hsc).2.2.1
  have HNE : Hid (ts ≠ []) := Lib.hid (fun h => by rw [h] at hl0; simp at hl0)
  obtain ⟨NT, hNT⟩ : ∃ q, ts.length = q := ⟨_, rfl⟩
  have HNT := Lib.hid hNT
  have HS := Lib.hid hs
  clear hE hsc hl0 hNT
  go_enter Tryz.func5, Tryz.ntmps5
  go_wp2_with fail
  refine KA.out.mono ?_
  rintro e w1 ⟨rfl, hb⟩
  have HE1 := Lib.hid (HE0.out.keep hb)
  have HB2 := Lib.hid (below_next HB0.out hb)
  clear hb KA
  go_wp2_with fail
  refine (scan_toks2 s ts w1 HE1.out (by omega) HSC.out HNE.out).mono ?_
  rintro e w2 ⟨g, cap, rfl, hcap, hta, hg1, hg2, hb⟩
  rw [HNT.out] at hcap ⊢
  have HE3 := Lib.hid (HE1.out.keep hb)
  have HB4 := Lib.hid (below_next HB2.out hb)
  clear hb hta
  go_wp2_with fail
  refine (topP_any s w2 HE3.out hn1).mono ?_
  intro e w5 hp6
  obtain ⟨hb, p, N, c, rfl | ⟨xk, xt, xhk, xht, xev, rfl⟩⟩ := topP_short HS.out HSC.out hp6
  · clear hp6
    have HE7 := Lib.hid (HE3.out.keep hb)
    have HB8 := Lib.hid (below_next HB4.out hb)
    clear hb
    have hbx := below_box w5 (.cells #[.slice p N c] 25)
    obtain ⟨w9, hww⟩ : ∃ qq, qq = w5.alloc (.cells #[.slice p N c] 25) := ⟨_, rfl⟩
    rw [← hww] at hbx
    have HW10 := Lib.hid hww
    have HE11 := Lib.hid (HE7.out.keep hbx)
    have HB12 := Lib.hid (below_next HB8.out hbx)
    clear hbx hww
    go_wp2_with fail
    rw [← HW10.out]
    clear HW10
    refine (topE_any s w9 HE11.out hn1).mono ?_
    intro e w19 hp20
    obtain ⟨hb, kd, o, i, nm, ab, q, M, d, rfl | ⟨yk, yt, yhk, yht, yev, rfl⟩⟩ := topE_short HS.out HSC.out hp20
    · clear hp20
      have HE21 := Lib.hid (HE11.out.keep hb)
      have HB22 := Lib.hid (below_next HB12.out hb)
      clear hb
      have hbx := below_box w19 (.cells #[.int .i64 kd, .int .i64 o, .int .i64 i, .string nm, .bool ab, .slice q M d] 33)
      obtain ⟨w23, hww⟩ : ∃ qq, qq = w19.alloc (.cells #[.int .i64 kd, .int .i64 o, .int .i64 i, .string nm, .bool ab, .slice q M d] 33) := ⟨_, rfl⟩
      rw [← hww] at hbx
      have HW24 := Lib.hid hww
      have HE25 := Lib.hid (HE21.out.keep hbx)
      have HB26 := Lib.hid (below_next HB22.out hbx)
      clear hbx hww
      go_wp2_with fail
      rw [← HW24.out]
      go_ret
      exact ⟨rfl, HB26.out⟩
    · clear hp20
      have HE27 := Lib.hid (HE11.out.keep hb)
      have HB28 := Lib.hid (below_next HB12.out hb)
      clear hb
      have hbx := below_box w19 (.cells #[.int .i64 kd, .int .i64 o, .int .i64 i, .string nm, .bool ab, .slice q M d] 33)
      obtain ⟨w29, hww⟩ : ∃ qq, qq = w19.alloc (.cells #[.int .i64 kd, .int .i64 o, .int .i64 i, .string nm, .bool ab, .slice q M d] 33) := ⟨_, rfl⟩
      rw [← hww] at hbx
      have HW30 := Lib.hid hww
      have HE31 := Lib.hid (HE27.out.keep hbx)
      have HB32 := Lib.hid (below_next HB28.out hbx)
      clear hbx hww
      have yH := scan_tok_cut HSC.out yht
      have yle := yH.1
      rw [← Lib.size_eq] at yle
      have yx : (s.extract 0 yt.pos).data.toList = s.data.toList.take yt.pos := by rw [Lib.extract_data]; simp
      have ysz : (s.extract 0 yt.pos).size ≤ 400 := by rw [Lib.size_eq, yx, List.length_take, ← Lib.size_eq]; omega
      have ySC : Hid (Lex.scan (s.extract 0 yt.pos).data.toList = .toks (ts.take yk ++ [⟨0, [], 0, yt.pos⟩])) := by rw [yx]; exact Lib.hid yH.2
      have ySZ := Lib.hid ysz
      have yN := Lib.hid (show (s.extract 0 yt.pos).size ≤ 9223372036854775800 by omega)
      have yX := Lib.hid yx
      have yHT := Lib.hid yht
      have yEV := Lib.hid yev
      have yi1 : (0 : Int) ≤ (yt.pos : Int) := by omega
      have yi2 : (yt.pos : Int) ≤ (s.size : Int) := by omega
      clear yH yx ysz yht yev
      go_wp2_with fail
      rw [← HW30.out]
      clear HW30
      refine (topE_any (s.extract 0 yt.pos) w29 HE31.out yN.out).mono ?_
      intro e w33 hp34
      obtain ⟨hb, kd, o, i, nm, ab, q, M, d, rfl | ⟨zk, zt, zhk, zht, zev, rfl⟩⟩ := topE_short ySZ.out ySC.out hp34
      · clear hp34
        have HE35 := Lib.hid (HE31.out.keep hb)
        have HB36 := Lib.hid (below_next HB32.out hb)
        clear hb
        have hbx := below_box w33 (.cells #[.int .i64 kd, .int .i64 o, .int .i64 i, .string nm, .bool ab, .slice q M d] 33)
        obtain ⟨w37, hww⟩ : ∃ qq, qq = w33.alloc (.cells #[.int .i64 kd, .int .i64 o, .int .i64 i, .string nm, .bool ab, .slice q M d] 33) := ⟨_, rfl⟩
        rw [← hww] at hbx
        have HW38 := Lib.hid hww
        have HE39 := Lib.hid (HE35.out.keep hbx)
        have HB40 := Lib.hid (below_next HB36.out hbx)
        clear hbx hww
        go_wp2_with fail
        rw [← HW38.out]
        go_ret
        exact ⟨rfl, HB40.out⟩
      · clear hp34
        have HE41 := Lib.hid (HE31.out.keep hb)
        have HB42 := Lib.hid (below_next HB32.out hb)
        clear hb
        have hbx := below_box w33 (.cells #[.int .i64 kd, .int .i64 o, .int .i64 i, .string nm, .bool ab, .slice q M d] 33)
        obtain ⟨w43, hww⟩ : ∃ qq, qq = w33.alloc (.cells #[.int .i64 kd, .int .i64 o, .int .i64 i, .string nm, .bool ab, .slice q M d] 33) := ⟨_, rfl⟩
        rw [← hww] at hbx
        have HW44 := Lib.hid hww
        have HE45 := Lib.hid (HE41.out.keep hbx)
        have HB46 := Lib.hid (below_next HB42.out hbx)
        clear hbx hww
        have hsame := off_gen Pa.ext_pX HSC.out yhk yHT.out yEV.out (by rw [← yX.out]; exact ySC.out) zhk zht zev
        rw [hsame]
        clear hsame zhk zht zev
        go_wp2_with fail
        rw [← HW44.out]
        go_ret
        exact ⟨rfl, HB46.out⟩
  · clear hp6
    have HE13 := Lib.hid (HE3.out.keep hb)
    have HB14 := Lib.hid (below_next HB4.out hb)
    clear hb
    have hbx := below_box w5 (.cells #[.slice p N c] 25)
    obtain ⟨w15, hww⟩ : ∃ qq, qq = w5.alloc (.cells #[.slice p N c] 25) := ⟨_, rfl⟩
    rw [← hww] at hbx
    have HW16 := Lib.hid hww
    have HE17 := Lib.hid (HE13.out.keep hbx)
    have HB18 := Lib.hid (below_next HB14.out hbx)
    clear hbx hww
    have xH := scan_tok_cut HSC.out xht
    have xle := xH.1
    rw [← Lib.size_eq] at xle
    have xx : (s.extract 0 xt.pos).data.toList = s.data.toList.take xt.pos := by rw [Lib.extract_data]; simp
    have xsz : (s.extract 0 xt.pos).size ≤ 400 := by rw [Lib.size_eq, xx, List.length_take, ← Lib.size_eq]; omega
    have xSC : Hid (Lex.scan (s.extract 0 xt.pos).data.toList = .toks (ts.take xk ++ [⟨0, [], 0, xt.pos⟩])) := by rw [xx]; exact Lib.hid xH.2
    have xSZ := Lib.hid xsz
    have xN := Lib.hid (show (s.extract 0 xt.pos).size ≤ 9223372036854775800 by omega)
    have xX := Lib.hid xx
    have xHT := Lib.hid xht
    have xEV := Lib.hid xev
    have xi1 : (0 : Int) ≤ (xt.pos : Int) := by omega
    have xi2 : (xt.pos : Int) ≤ (s.size : Int) := by omega
    clear xH xx xsz xht xev
    go_wp2_with fail
    rw [← HW16.out]
    clear HW16
    refine (topE_any s w15 HE17.out hn1).mono ?_
    intro e w47 hp48
    obtain ⟨hb, kd, o, i, nm, ab, q, M, d, rfl | ⟨yk, yt, yhk, yht, yev, rfl⟩⟩ := topE_short HS.out HSC.out hp48
    · clear hp48
      have HE49 := Lib.hid (HE17.out.keep hb)
      have HB50 := Lib.hid (below_next HB18.out hb)
      clear hb
      have hbx := below_box w47 (.cells #[.int .i64 kd, .int .i64 o, .int .i64 i, .string nm, .bool ab, .slice q M d] 33)
      obtain ⟨w51, hww⟩ : ∃ qq, qq = w47.alloc (.cells #[.int .i64 kd, .int .i64 o, .int .i64 i, .string nm, .bool ab, .slice q M d] 33) := ⟨_, rfl⟩
      rw [← hww] at hbx
      have HW52 := Lib.hid hww
      have HE53 := Lib.hid (HE49.out.keep hbx)
      have HB54 := Lib.hid (below_next HB50.out hbx)
      clear hbx hww
      go_wp2_with fail
      rw [← HW52.out]
      clear HW52
      refine (topP_any (s.extract 0 xt.pos) w51 HE53.out xN.out).mono ?_
      intro e w61 hp62
      obtain ⟨hb, p, N, c, rfl | ⟨zk, zt, zhk, zht, zev, rfl⟩⟩ := topP_short xSZ.out xSC.out hp62
      · clear hp62
        have HE63 := Lib.hid (HE53.out.keep hb)
        have HB64 := Lib.hid (below_next HB54.out hb)
        clear hb
        have hbx := below_box w61 (.cells #[.slice p N c] 25)
        obtain ⟨w65, hww⟩ : ∃ qq, qq = w61.alloc (.cells #[.slice p N c] 25) := ⟨_, rfl⟩
        rw [← hww] at hbx
        have HW66 := Lib.hid hww
        have HE67 := Lib.hid (HE63.out.keep hbx)
        have HB68 := Lib.hid (below_next HB64.out hbx)
        clear hbx hww
        go_wp2_with fail
        rw [← HW66.out]
        go_ret
        exact ⟨rfl, HB68.out⟩
      · clear hp62
        have HE69 := Lib.hid (HE53.out.keep hb)
        have HB70 := Lib.hid (below_next HB54.out hb)
        clear hb
        have hbx := below_box w61 (.cells #[.slice p N c] 25)
        obtain ⟨w71, hww⟩ : ∃ qq, qq = w61.alloc (.cells #[.slice p N c] 25) := ⟨_, rfl⟩
        rw [← hww] at hbx
        have HW72 := Lib.hid hww
        have HE73 := Lib.hid (HE69.out.keep hbx)
        have HB74 := Lib.hid (below_next HB70.out hbx)
        clear hbx hww
        have hsame := off_gen (fun f => Pa.ext_pP f []) HSC.out xhk xHT.out xEV.out (by rw [← xX.out]; exact xSC.out) zhk zht zev
        rw [hsame]
        clear hsame zhk zht zev
        go_wp2_with fail
        rw [← HW72.out]
        go_ret
        exact ⟨rfl, HB74.out⟩
    · clear hp48
      have HE55 := Lib.hid (HE17.out.keep hb)
      have HB56 := Lib.hid (below_next HB18.out hb)
      clear hb
      have hbx := below_box w47 (.cells #[.int .i64 kd, .int .i64 o, .int .i64 i, .string nm, .bool ab, .slice q M d] 33)
      obtain ⟨w57, hww⟩ : ∃ qq, qq = w47.alloc (.cells #[.int .i64 kd, .int .i64 o, .int .i64 i, .string nm, .bool ab, .slice q M d] 33) := ⟨_, rfl⟩
      rw [← hww] at hbx
      have HW58 := Lib.hid hww
      have HE59 := Lib.hid (HE55.out.keep hbx)
      have HB60 := Lib.hid (below_next HB56.out hbx)
      clear hbx hww
      have yH := scan_tok_cut HSC.out yht
      have yle := yH.1
      rw [← Lib.size_eq] at yle
      have yx : (s.extract 0 yt.pos).data.toList = s.data.toList.take yt.pos := by rw [Lib.extract_data]; simp
      have ysz : (s.extract 0 yt.pos).size ≤ 400 := by rw [Lib.size_eq, yx, List.length_take, ← Lib.size_eq]; omega
      have ySC : Hid (Lex.scan (s.extract 0 yt.pos).data.toList = .toks (ts.take yk ++ [⟨0, [], 0, yt.pos⟩])) := by rw [yx]; exact Lib.hid yH.2
      have ySZ := Lib.hid ysz
      have yN := Lib.hid (show (s.extract 0 yt.pos).size ≤ 9223372036854775800 by omega)
      have yX := Lib.hid yx
      have yHT := Lib.hid yht
      have yEV := Lib.hid yev
      have yi1 : (0 : Int) ≤ (yt.pos : Int) := by omega
      have yi2 : (yt.pos : Int) ≤ (s.size : Int) := by omega
      clear yH yx ysz yht yev
      go_wp2_with fail
      rw [← HW58.out]
      clear HW58
      refine (topP_any (s.extract 0 xt.pos) w57 HE59.out xN.out).mono ?_
      intro e w75 hp76
      obtain ⟨hb, p, N, c, rfl | ⟨zk, zt, zhk, zht, zev, rfl⟩⟩ := topP_short xSZ.out xSC.out hp76
      · clear hp76
        have HE77 := Lib.hid (HE59.out.keep hb)
        have HB78 := Lib.hid (below_next HB60.out hb)
        clear hb
        have hbx := below_box w75 (.cells #[.slice p N c] 25)
        obtain ⟨w79, hww⟩ : ∃ qq, qq = w75.alloc (.cells #[.slice p N c] 25) := ⟨_, rfl⟩
        rw [← hww] at hbx
        have HW80 := Lib.hid hww
        have HE81 := Lib.hid (HE77.out.keep hbx)
        have HB82 := Lib.hid (below_next HB78.out hbx)
        clear hbx hww
        go_wp2_with fail
        rw [← HW80.out]
        clear HW80
        refine (topE_any (s.extract 0 yt.pos) w79 HE81.out yN.out).mono ?_
        intro e w89 hp90
        obtain ⟨hb, kd, o, i, nm, ab, q, M, d, rfl | ⟨zk, zt, zhk, zht, zev, rfl⟩⟩ := topE_short ySZ.out ySC.out hp90
        · clear hp90
          have HE91 := Lib.hid (HE81.out.keep hb)
          have HB92 := Lib.hid (below_next HB82.out hb)
          clear hb
          have hbx := below_box w89 (.cells #[.int .i64 kd, .int .i64 o, .int .i64 i, .string nm, .bool ab, .slice q M d] 33)
          obtain ⟨w93, hww⟩ : ∃ qq, qq = w89.alloc (.cells #[.int .i64 kd, .int .i64 o, .int .i64 i, .string nm, .bool ab, .slice q M d] 33) := ⟨_, rfl⟩
          rw [← hww] at hbx
          have HW94 := Lib.hid hww
          have HE95 := Lib.hid (HE91.out.keep hbx)
          have HB96 := Lib.hid (below_next HB92.out hbx)
          clear hbx hww
          go_wp2_with fail
          rw [← HW94.out]
          go_ret
          exact ⟨rfl, HB96.out⟩
        · clear hp90
          have HE97 := Lib.hid (HE81.out.keep hb)
          have HB98 := Lib.hid (below_next HB82.out hb)
          clear hb
          have hbx := below_box w89 (.cells #[.int .i64 kd, .int .i64 o, .int .i64 i, .string nm, .bool ab, .slice q M d] 33)
          obtain ⟨w99, hww⟩ : ∃ qq, qq = w89.alloc (.cells #[.int .i64 kd, .int .i64 o, .int .i64 i, .string nm, .bool ab, .slice q M d] 33) := ⟨_, rfl⟩
          rw [← hww] at hbx
          have HW100 := Lib.hid hww
          have HE101 := Lib.hid (HE97.out.keep hbx)
          have HB102 := Lib.hid (below_next HB98.out hbx)
          clear hbx hww
          have hsame := off_gen Pa.ext_pX HSC.out yhk yHT.out yEV.out (by rw [← yX.out]; exact ySC.out) zhk zht zev
          rw [hsame]
          clear hsame zhk zht zev
          go_wp2_with fail
          rw [← HW100.out]
          go_ret
          exact ⟨rfl, HB102.out⟩
      · clear hp76
        have HE83 := Lib.hid (HE59.out.keep hb)
        have HB84 := Lib.hid (below_next HB60.out hb)
        clear hb
        have hbx := below_box w75 (.cells #[.slice p N c] 25)
        obtain ⟨w85, hww⟩ : ∃ qq, qq = w75.alloc (.cells #[.slice p N c] 25) := ⟨_, rfl⟩
        rw [← hww] at hbx
        have HW86 := Lib.hid hww
        have HE87 := Lib.hid (HE83.out.keep hbx)
        have HB88 := Lib.hid (below_next HB84.out hbx)
        clear hbx hww
        have hsame := off_gen (fun f => Pa.ext_pP f []) HSC.out xhk xHT.out xEV.out (by rw [← xX.out]; exact xSC.out) zhk zht zev
        rw [hsame]
        clear hsame zhk zht zev
        go_wp2_with fail
        rw [← HW86.out]
        clear HW86
        refine (topE_any (s.extract 0 yt.pos) w85 HE87.out yN.out).mono ?_
        intro e w103 hp104
        obtain ⟨hb, kd, o, i, nm, ab, q, M, d, rfl | ⟨zk, zt, zhk, zht, zev, rfl⟩⟩ := topE_short ySZ.out ySC.out hp104
        · clear hp104
          have HE105 := Lib.hid (HE87.out.keep hb)
          have HB106 := Lib.hid (below_next HB88.out hb)
          clear hb
          have hbx := below_box w103 (.cells #[.int .i64 kd, .int .i64 o, .int .i64 i, .string nm, .bool ab, .slice q M d] 33)
          obtain ⟨w107, hww⟩ : ∃ qq, qq = w103.alloc (.cells #[.int .i64 kd, .int .i64 o, .int .i64 i, .string nm, .bool ab, .slice q M d] 33) := ⟨_, rfl⟩
          rw [← hww] at hbx
          have HW108 := Lib.hid hww
          have HE109 := Lib.hid (HE105.out.keep hbx)
          have HB110 := Lib.hid (below_next HB106.out hbx)
          clear hbx hww
          go_wp2_with fail
          rw [← HW108.out]
          go_ret
          exact ⟨rfl, HB110.out⟩
        · clear hp104
          have HE111 := Lib.hid (HE87.out.keep hb)
          have HB112 := Lib.hid (below_next HB88.out hb)
          clear hb
          have hbx := below_box w103 (.cells #[.int .i64 kd, .int .i64 o, .int .i64 i, .string nm, .bool ab, .slice q M d] 33)
          obtain ⟨w113, hww⟩ : ∃ qq, qq = w103.alloc (.cells #[.int .i64 kd, .int .i64 o, .int .i64 i, .string nm, .bool ab, .slice q M d] 33) := ⟨_, rfl⟩
          rw [← hww] at hbx
          have HW114 := Lib.hid hww
          have HE115 := Lib.hid (HE111.out.keep hbx)
          have HB116 := Lib.hid (below_next HB112.out hbx)
          clear hbx hww
          have hsame := off_gen Pa.ext_pX HSC.out yhk yHT.out yEV.out (by rw [← yX.out]; exact ySC.out) zhk zht zev
          rw [hsame]
          clear hsame zhk zht zev
          go_wp2_with fail
          rw [← HW114.out]
          go_ret
          exact ⟨rfl, HB116.out⟩
theorem law_offsets (s : ByteArray) (w : World) (hE : LexEnv w) : Calls Tryz.prog 5 #[.string s] w fun e w' => e = .returned (.bool true) ∧ Below w.heap.size w w' := by
  by_cases hs : s.size ≤ 400
  · cases hsc : Lex.scan s.data.toList with
    | bad a er => exact off_bad s w hE hs a er hsc
    | toks ts => exact off_toks s w hE hs ts hsc
  · exact off_far s w hE (by omega)
end Go.Proofs.YtdckddkalgnlpaaGreatDoor
namespace Go.Proofs.YtdckddkalgnlpaaGreatDoor
open Go.RowKit Go.ChangeShapes Go.WideShapes
theorem laidVars_at {P : Program} {W : World} : ∀ {l : List (String × DataW Unit)} {ps : List MemPlace}, DataW.LaidVars P W l ps → ∀ {n : String} {d : DataW Unit}, (n, d) ∈ l →
    ∃ g t cs fuel p, P.globalNamed n = some g ∧ (P.globals[g]?).map (·.type) = some t ∧ W.var? P n = some cs ∧ DataW.trod (fun _ => ()) P W 0 (fun _ => true) false fuel t cs.toList = some (d, p)
  | [], _, _, _, _, hm => by simp at hm
  | (n', d') :: r, ps, h, n, d, hm => by
    obtain ⟨g, t, cs, fuel, p, q, h1, h2, h3, h4, h5, _⟩ := h
    rcases List.mem_cons.1 hm with e | hm
    · cases e
      exact ⟨g, t, cs, fuel, p, h1, h2, h3, h4⟩
    · exact laidVars_at h5 hm
theorem laid_at {P : Program} {W : World} {l : List (String × DataW Unit)} (h : laidMet P l W) {n : String} {d : DataW Unit} (hm : (n, d) ∈ l) :
    ∃ g t cs fuel p, P.globalNamed n = some g ∧ (P.globals[g]?).map (·.type) = some t ∧ W.var? P n = some cs ∧ DataW.trod (fun _ => ()) P W 0 (fun _ => true) false fuel t cs.toList = some (d, p) := by
  obtain ⟨ps, h1, _⟩ := h
  exact laidVars_at h1 hm
/-- a slice of strings that is listed: its cells -/
theorem strings_at {W : World} {l : List (String × DataW Unit)} (h : laidMet Tryz.prog l W) {n : String} {g : Nat} (ls : List (List UInt8)) (hne : ls ≠ [])
    (hm : (n, DataW.slice (ls.map fun x => .lit (.string x)) []) ∈ l) (hg : Tryz.prog.globalNamed n = some g) (hty : (Tryz.prog.globals[g]?).map (·.type) = some 46) (hcs : Tryz.prog.cellsOf 9 = 1) :
    ∃ b o c, W.cell? ⟨g, 0, none⟩ = some (.slice (some ⟨b, o, none⟩) ls.length c) ∧ ∀ j, j < ls.length → W.cell? ⟨b, o + j, none⟩ = some (.string ⟨(ls.getD j []).toArray⟩) := by
  obtain ⟨g', t, cs, fuel, p, h1, h2, h3, h4⟩ := laid_at h hm
  obtain rfl : g = g' := Option.some.inj (hg.symm.trans h1)
  obtain rfl : t = 46 := (Option.some.inj (hty.symm.trans h2)).symm
  rcases open_strings Tryz.underlying46 Tryz.underlying9 hcs h4 with ⟨_, hx⟩ | ⟨a, len, cap, ss, hcs2, _, hl, hm2, hz, hx, hcell, _⟩
  · cases hx
  · have hc0 := World.var?_cell hg h3 0
    have hcs3 : cs[0]? = some (.slice (some a) len cap) := by
      rw [← Array.getElem?_toList, hcs2]; rfl
    rw [hcs3] at hc0
    simp only [Prod.mk.injEq, DataW.slice.injEq] at hx
    obtain ⟨⟨e1, e2⟩, _⟩ := hx
    have hss : (ss.take len).map (fun s => s.data.toList) = ls := by
      have h5 : ∀ (zs : List ByteArray) (ys : List (List UInt8)), ys.map (fun x => (DataW.lit (.string x) : DataW Unit)) = strs zs → zs.map (fun s => s.data.toList) = ys := by
        intro zs
        induction zs with
        | nil => intro ys hy; cases ys with | nil => rfl | cons _ _ => simp [strs] at hy
        | cons z zs ih =>
          intro ys hy
          cases ys with
          | nil => simp [strs] at hy
          | cons y ys =>
            simp only [strs, List.map_cons, List.cons.injEq, DataW.lit.injEq, Lit.string.injEq] at hy ⊢
            exact ⟨hy.1.symm, ih ys hy.2⟩
      exact h5 _ _ e1
    have hslen : ss.length = cap := by simpa using hz
    have hlen : len = ls.length := by
      rw [← hss, List.length_map, List.length_take, hslen]; omega
    have hpos : 0 < ss.length := by
      have : 0 < ls.length := List.length_pos_iff.2 hne
      omega
    obtain ⟨b, o, sp⟩ := a
    have hsp : sp = none := by
      have h6 := hcell 0 hpos
      unfold World.cell? at h6
      cases sp with
      | none => rfl
      | some k =>
        exfalso
        have hsome : ((⟨b, o, some k⟩ : Addr).add 0).spot.isSome = true := by unfold Addr.add; split <;> simp_all
        rw [hsome] at h6
        split at h6
        · simp at h6
        · cases h6
    subst hsp
    refine ⟨b, o, cap, by rw [hc0, hlen], fun j hj => ?_⟩
    have h6 := hcell j (by omega)
    have hadd : (⟨b, o, none⟩ : Addr).add j = ⟨b, o + j, none⟩ := by unfold Addr.add; split <;> simp_all
    rw [hadd] at h6
    rw [h6]
    have h7 : (ls.getD j []) = (ss.getD j ByteArray.empty).data.toList := by
      have hj2 : j < ss.length := by omega
      rw [← hss, List.getD_eq_getElem?_getD, List.getElem?_map, List.getElem?_take, if_pos (by omega), List.getElem?_eq_getElem hj2, List.getD_eq_getElem?_getD, List.getElem?_eq_getElem hj2]
      rfl
    rw [h7]
theorem iface_at {W : World} {l : List (String × DataW Unit)} (h : laidMet Tryz.prog l W) {n : String} {g : Nat} {nm : String} {d : DataW Unit} {ti : TypeId} {ms : Array (String × TypeId)}
    (hm : (n, DataW.iface nm d) ∈ l) (hg : Tryz.prog.globalNamed n = some g) (hty : (Tryz.prog.globals[g]?).map (·.type) = some ti) (hi : Tryz.prog.underlying ti = some (.interface ms)) :
    ∃ te pe, W.cell? ⟨g, 0, none⟩ = some (.iface te pe) := by
  obtain ⟨g', t, cs, fuel, p, h1, h2, h3, h4⟩ := laid_at h hm
  obtain rfl : g = g' := Option.some.inj (hg.symm.trans h1)
  obtain rfl : t = ti := (Option.some.inj (hty.symm.trans h2)).symm
  obtain ⟨_, u, v, hcs2, _⟩ := iface_of_trod hi h4
  have hc0 := World.var?_cell hg h3 0
  have hcs3 : cs[0]? = some (.iface u v) := by
    rw [← Array.getElem?_toList, hcs2]; rfl
  exact ⟨u, v, by rw [hc0, hcs3]⟩
theorem lexEnv_of {W : World} (h : laidMetH Tryz.prog Rows.parserOffsetsRow.laid W) : LexEnv W := by
  have hl : laidMet Tryz.prog Rows.parserOffsetsRow.laid W := h
  have hk := strings_at hl (g := 3) Lex.keywords (by decide) (List.mem_of_getElem? (i := 6) rfl) (by kernel_rfl) (by kernel_rfl) (by kernel_rfl)
  have hs := strings_at hl (g := 1) Lex.symbols (by decide) (List.mem_of_getElem? (i := 7) rfl) (by kernel_rfl) (by kernel_rfl) (by kernel_rfl)
  exact ⟨hk, hs, iface_at hl (g := 6) (List.mem_of_getElem? (i := 4) rfl) (by kernel_rfl) (by kernel_rfl) Tryz.underlying123⟩
end Go.Proofs.YtdckddkalgnlpaaGreatDoor
namespace Go.Proofs.YtdckddkalgnlpaaGreatDoor
open Go.RowKit Go.WideShapes Go.ChangeShapes
section
variable {H : Type} {enc : TypeId × Value → H} {P : Program}
/-- The row's last step, of a call that has turned nothing that was there. -/
theorem post_kept {f : Func} {s : ChangeSpec} {apart fresh handsOn again : Bool} {W W' : World} {args : Array Value} {v : Value} {ds gs : List (DataW H)} {before pa pv : List MemPlace}
    (hW : DataW.Whole enc P f.params.toList s.vars apart W args.toList ds gs before) (hb : Below W.heap.size W W')
    (hres : ∀ (b : Nat) (sp : Nat → Bool) (hd : Bool), DataW.TrodAll enc P W' b sp hd f.resultTypes.toList (v.resultList f.resultTypes.size) (s.fn H (ds ++ gs)).results [])
    (hargs : ∀ sp : Nat → Bool, (∀ p ∈ before, sp p.block = true) → DataW.TrodAll enc P W' 0 sp true f.params.toList args.toList (s.fn H (ds ++ gs)).args pa)
    (hvars : ∀ sp : Nat → Bool, (∀ p ∈ before, sp p.block = true) → DataW.TrodVars enc P W' sp s.vars (s.fn H (ds ++ gs)).vars pv)
    (hps : before = pa ++ pv)
    (hok : ∀ (j : Nat) (t : TypeId) (r : Value), f.resultTypes[j]? = some t → (v.resultList f.resultTypes.size)[j]? = some r → Value.okWide P W' .any 0 t r) :
    s.post enc P f apart fresh handsOn again W args v W' := by
  subst hps
  have old : ∀ p ∈ pa ++ pv, decide (p.block < W.heap.size) = true := fun p hp => decide_eq_true (hW.lt p hp)
  refine ⟨ds, gs, pa ++ pv, [], pa, pv, hW, hres _ _ _, hargs (fun b => decide (b < W.heap.size)) old, hvars (fun b => decide (b < W.heap.size)) old, World.keptBut_mono (fun p hp => ⟨hp, .inr (List.mem_append.1 hp)⟩) (hb.frame (· ∈ pa ++ pv)), fun _ => ⟨hok, ?_⟩⟩
  obtain ⟨_, _, _, _, _, hz, hn⟩ := hW
  refine ⟨_, _, ([] ++ pa) ++ pv, ⟨[] ++ pa, pv, trodAll_append (hargs _ (fun _ _ => rfl)) (hres _ _ _), hvars _ (fun _ _ => rfl), rfl, fun b off hp => ?_, fun ha => ?_⟩, fun p hp _ => by simpa using hp⟩
  · have hin : MemPlace.cell b off ∈ pa ++ pv := by simpa using hp
    rw [hb.frozen (of_decide_eq_true (old _ hin))]
    exact hz b off hin
  · simpa using hn ha
end
theorem own : ownKnob Tryz.prog.godebug = none := by kernel_rfl
/-- integers out of a datum that is a row of them -/
def rowOf : DataW Unit → List Value
  | .agg l => l.map fun | .lit (.int k n) => .int k n | _ => .nilIface
  | _ => []
def rowsOf : DataW Unit → List Value
  | .agg l => l.flatMap rowOf
  | _ => []
def strsOf (l : List (List UInt8)) : Array Value := (l.map fun x => Value.string ⟨x.toArray⟩).toArray
/-- A world for the witness: the settled one, the listed variables holding what their initialisers lay. -/
noncomputable def laidWorld (os : Os) : World :=
  let N := (World.settled Tryz.prog os).heap.size
  let w0 := World.holding Tryz.prog os ⟨#[
    .cells (strsOf Lex.keywords) 9, .cells (strsOf Lex.symbols) 9,
    .cells #[.string ⟨#[105, 110, 118, 97, 108, 105, 100, 32, 115, 121, 110, 116, 97, 120]⟩] 227,
    .cells #[.string ⟨#[118, 97, 108, 117, 101, 32, 111, 117, 116, 32, 111, 102, 32, 114, 97, 110, 103, 101]⟩] 227], #[], []⟩
  let put (h : Array Obj) (g : Nat) (cs : Array Value) : Array Obj := h.modify g fun
    | .cells _ t frozen => .cells cs t frozen
    | o => o
  let h := put w0.heap 3 #[.slice (some ⟨N, 0, none⟩) 24 24]
  let h := put h 1 #[.slice (some ⟨N + 1, 0, none⟩) 19 19]
  let h := put h 5 #[.iface 225 (.pointer (some ⟨N + 2, 0, none⟩))]
  let h := put h 6 #[.iface 225 (.pointer (some ⟨N + 3, 0, none⟩))]
  let h := put h 7 (rowOf Go.Pinned.utf8First).toArray
  let h := put h 8 (rowsOf Rows.laid_unicode_utf8_acceptRanges).toArray
  let h := put h 9 (rowOf Rows.laid_internal_strconv_uint64pow10).toArray
  let h := put h 10 (rowOf Rows.laid_math_bits_deBruijn32tab).toArray
  let h := put h 11 (rowOf Rows.laid_math_bits_deBruijn64tab).toArray
  { w0 with heap := h }
theorem laid_met (os : Os) (args : Array Value) : laidMet Tryz.prog Rows.parserOffsetsRow.laid ((laidWorld os).forCall (fun _ _ => 0) ⟨#[], args, []⟩).memory :=
  laidMet_of_run' 8 (by kernel_rfl) (by kernel_rfl)
end Go.Proofs.YtdckddkalgnlpaaGreatDoor
