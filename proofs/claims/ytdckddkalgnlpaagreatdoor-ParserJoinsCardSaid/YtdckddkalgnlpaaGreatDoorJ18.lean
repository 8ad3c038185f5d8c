/-
  Several texts in one: PbRunA, PbRun.
-/
import Derived.Test.YtdckddkalgnlpaaGreatDoorJ17
import Derived.Test.YtdckddkalgnlpaaGreatDoorJ4
import Derived.Defers
import Derived.Recover
namespace Go.Proofs.YtdckddkalgnlpaaGreatDoor
open Go.RowKit Go.Maps Pw
theorem tassert (p : Int) (w : World) : (Instr.typeAssert (.iface 100 (.int .i64 p)) 20 100 true).run Tryz.prog w = .ok (.tuple #[.int .i64 p, .bool true]) w := by kernel_rfl
theorem alloc3 (w : World) (o1 o2 o3 : Obj) : (((w.alloc o1).alloc o2).alloc o3).heap[w.heap.size]? = some o1 ∧ (((w.alloc o1).alloc o2).alloc o3).heap[w.heap.size + 1]? = some o2 ∧ (((w.alloc o1).alloc o2).alloc o3).heap[w.heap.size + 2]? = some o3 ∧ Below w.heap.size w (((w.alloc o1).alloc o2).alloc o3) ∧ (((w.alloc o1).alloc o2).alloc o3).heap.size = w.heap.size + 3 := by
  have h1 := below_box w o1
  have h2 := below_box (w.alloc o1) o2
  have h3 := below_box ((w.alloc o1).alloc o2) o3
  have n1 := new_at (w := w) (o := o1) rfl
  have n2 := new_at (w := w.alloc o1) (o := o2) (n := w.heap.size + 1) (by simp)
  have n3 := new_at (w := (w.alloc o1).alloc o2) (o := o3) (n := w.heap.size + 2) (by simp)
  have hb := below_next h1 (below_next h2 h3)
  exact ⟨(h3.block _ (lt_of_block ((h2.block _ (lt_of_block n1)).trans n1))).trans ((h2.block _ (lt_of_block n1)).trans n1), (h3.block _ (lt_of_block n2)).trans n2, n3, hb, by simp⟩
set_option maxRecDepth 100000 in
set_option maxHeartbeats 4000000 in
theorem catchP_fail (A B C : Nat) (v0 : Value) (o er : Int) (p : Nat) (older : List PanicEntry) (w : World) (hA0 : w.cell? ⟨A, 0, none⟩ = some v0) (hz0 : w.frozen? ⟨A, 0, none⟩ = false) (hB : w.cell? ⟨B, 0, none⟩ = some (.int .i64 o)) (hBz : w.frozen? ⟨B, 0, none⟩ = false) (hC : w.cell? ⟨C, 0, none⟩ = some (.int .i64 er)) (hCz : w.frozen? ⟨C, 0, none⟩ = false) (hAB : A ≠ B) (hAC : A ≠ C) (hBC : B ≠ C) :
    CallsD Tryz.prog 56 #[.pointer (some ⟨A, 0, none⟩), .pointer (some ⟨B, 0, none⟩), .pointer (some ⟨C, 0, none⟩)] (.panicking ({ v := .iface 100 (.int .i64 p), recovered := false } :: older)) w fun e u' w' =>
      e = .returned (.tuple #[]) ∧ u' = .panicking ({ v := .iface 100 (.int .i64 p), recovered := true } :: older) ∧ w' = (((w.setCell ⟨A, 0, none⟩ (.slice none 0 0)).setCell ⟨B, 0, none⟩ (.int .i64 p)).setCell ⟨C, 0, none⟩ (.int .i64 3)).alloc (.cells #[.slice none 0 0] 25) := by
  refine callsD_of_wpS Tryz.func56 rfl fun c₀ cs hu => ?_
  apply wpS_seq
  apply wpS_region
  simp [wpOpsS, go_sem, recoverD, hu, Tryz.ntmps56, Exit.thenS]
  refine wpS_of_wp ?_
  have hta := tassert
  have a1 := cell_lt' hA0
  have a2 := cell_lt' hB
  have a3 := cell_lt' hC
  go_wp2
  simp [bodyPostS, results, Tryz.results56]
set_option maxRecDepth 100000 in
theorem catchP_idle (A B C : Nat) (w : World) :
    CallsD Tryz.prog 56 #[.pointer (some ⟨A, 0, none⟩), .pointer (some ⟨B, 0, none⟩), .pointer (some ⟨C, 0, none⟩)] .returning w fun e u' w' => e = .returned (.tuple #[]) ∧ u' = .returning ∧ w' = w := by
  refine callsD_of_wpS Tryz.func56 rfl fun c₀ cs hu => ?_
  apply wpS_seq
  apply wpS_region
  simp [wpOpsS, go_sem, recoverD, hu, Tryz.ntmps56, Exit.thenS]
  refine wpS_of_wp ?_
  go_wp2
  cases c₀
  simp_all [bodyPostS, results, Tryz.results56]
set_option maxRecDepth 100000 in
set_option maxHeartbeats 4000000 in
theorem catchE_fail (A B C : Nat) (v0 v1 v2 v3 v4 v5 : Value) (o er : Int) (p : Nat) (older : List PanicEntry) (w : World) (hA0 : w.cell? ⟨A, 0, none⟩ = some v0) (hz0 : w.frozen? ⟨A, 0, none⟩ = false) (hA1 : w.cell? ⟨A, 1, none⟩ = some v1) (hz1 : w.frozen? ⟨A, 1, none⟩ = false) (hA2 : w.cell? ⟨A, 2, none⟩ = some v2) (hz2 : w.frozen? ⟨A, 2, none⟩ = false) (hA3 : w.cell? ⟨A, 3, none⟩ = some v3) (hz3 : w.frozen? ⟨A, 3, none⟩ = false) (hA4 : w.cell? ⟨A, 4, none⟩ = some v4) (hz4 : w.frozen? ⟨A, 4, none⟩ = false) (hA5 : w.cell? ⟨A, 5, none⟩ = some v5) (hz5 : w.frozen? ⟨A, 5, none⟩ = false) (hB : w.cell? ⟨B, 0, none⟩ = some (.int .i64 o)) (hBz : w.frozen? ⟨B, 0, none⟩ = false) (hC : w.cell? ⟨C, 0, none⟩ = some (.int .i64 er)) (hCz : w.frozen? ⟨C, 0, none⟩ = false) (hAB : A ≠ B) (hAC : A ≠ C) (hBC : B ≠ C) :
    CallsD Tryz.prog 69 #[.pointer (some ⟨A, 0, none⟩), .pointer (some ⟨B, 0, none⟩), .pointer (some ⟨C, 0, none⟩)] (.panicking ({ v := .iface 100 (.int .i64 p), recovered := false } :: older)) w fun e u' w' =>
      e = .returned (.tuple #[]) ∧ u' = .panicking ({ v := .iface 100 (.int .i64 p), recovered := true } :: older) ∧ w' = ((((((((w.setCell ⟨A, 0, none⟩ (.int .i64 0)).setCell ⟨A, 1, none⟩ (.int .i64 0)).setCell ⟨A, 2, none⟩ (.int .i64 0)).setCell ⟨A, 3, none⟩ (.string ⟨#[]⟩)).setCell ⟨A, 4, none⟩ (.bool false)).setCell ⟨A, 5, none⟩ (.slice none 0 0)).setCell ⟨B, 0, none⟩ (.int .i64 p)).setCell ⟨C, 0, none⟩ (.int .i64 3)).alloc (.cells #[.int .i64 0, .int .i64 0, .int .i64 0, .string ⟨#[]⟩, .bool false, .slice none 0 0] 33) := by
  refine callsD_of_wpS Tryz.func69 rfl fun c₀ cs hu => ?_
  apply wpS_seq
  apply wpS_region
  simp [wpOpsS, go_sem, recoverD, hu, Tryz.ntmps69, Exit.thenS]
  refine wpS_of_wp ?_
  have hta := tassert
  have a1 := cell_lt' hA0
  have a2 := cell_lt' hB
  have a3 := cell_lt' hC
  go_wp2
  simp [bodyPostS, results, Tryz.results69]
set_option maxRecDepth 100000 in
theorem catchE_idle (A B C : Nat) (w : World) :
    CallsD Tryz.prog 69 #[.pointer (some ⟨A, 0, none⟩), .pointer (some ⟨B, 0, none⟩), .pointer (some ⟨C, 0, none⟩)] .returning w fun e u' w' => e = .returned (.tuple #[]) ∧ u' = .returning ∧ w' = w := by
  refine callsD_of_wpS Tryz.func69 rfl fun c₀ cs hu => ?_
  apply wpS_seq
  apply wpS_region
  simp [wpOpsS, go_sem, recoverD, hu, Tryz.ntmps69, Exit.thenS]
  refine wpS_of_wp ?_
  go_wp2
  cases c₀
  simp_all [bodyPostS, results, Tryz.results69]
/-- an expression that is all -/
def Pa.pX (f : Nat) (ts : Pa.Toks) : Pa.R Tr.E := (Pa.pE f 0 ts).bind fun e r => if r = [] then .ok e [] else .bad r
theorem inc_set {B b j : Nat} {v : Value} {W : World} (h : b < B) : Inc (hide (upL B []) W) (hide (upL B []) (W.setCell ⟨b, j, none⟩ v)) := up_step (gr_set W b j v) (fun q hq => .inl (by injection hq; omega)) (fun _ _ h => h)
theorem pC_bad {L : List Lex.Tok} {n k : Nat} (hL : Pa.TkL L n) (hk : k ≤ n) (ha : Pa.is [97, 99, 116, 111, 114] (Pa.rest L n k) = false) (hr : Pa.is [114, 101, 99, 111, 114, 100] (Pa.rest L n k) = false) (f : Nat) : Pa.pC f (Pa.rest L n k) = .bad (Pa.rest L n k) := by
  unfold Pa.pC
  rw [ha, if_neg (by decide), Pa.expect_at hL hk, hr, if_neg (by decide)]
  rfl
def RunP (w : World) (ts : List Lex.Tok) (e : Ending) (w' : World) : Prop := Below w.heap.size w w' ∧
  ((∃ cs v, Pa.Ev (fun f => Pa.pP f [] (Pa.rest ts (ts.length - 1) 0)) (.ok cs []) ∧ e = .returned (.tuple #[.agg #[v], .int .i64 0, .int .i64 0]) ∧ SlC (hide (upL w.heap.size []) w') v cs) ∨
   (∃ k t, Pa.Ev (fun f => Pa.pP f [] (Pa.rest ts (ts.length - 1) 0)) (.bad (Pa.rest ts (ts.length - 1) k)) ∧ k ≤ ts.length - 1 ∧ ts[k]? = some t ∧ e = .returned (.tuple #[.agg #[.slice none 0 0], .int .i64 t.pos, .int .i64 3])))
def RunE (w : World) (ts : List Lex.Tok) (e : Ending) (w' : World) : Prop := Below w.heap.size w w' ∧
  ((∃ x v, Pa.Ev (fun f => Pa.pX f (Pa.rest ts (ts.length - 1) 0)) (.ok x []) ∧ e = .returned (.tuple #[v, .int .i64 0, .int .i64 0]) ∧ rdE (hide (upL w.heap.size []) w') v x) ∨
   (∃ k t, Pa.Ev (fun f => Pa.pX f (Pa.rest ts (ts.length - 1) 0)) (.bad (Pa.rest ts (ts.length - 1) k)) ∧ k ≤ ts.length - 1 ∧ ts[k]? = some t ∧ e = .returned (.tuple #[.agg #[.int .i64 0, .int .i64 0, .int .i64 0, .string ⟨#[]⟩, .bool false, .slice none 0 0], .int .i64 t.pos, .int .i64 3])))
theorem scan_toks2 (s : ByteArray) (ts : List Lex.Tok) (w : World) (hE : LexEnv w) (hs : s.size ≤ 16384) (h : Lex.scan s.data.toList = .toks ts) (hne : ts ≠ []) :
    Calls Tryz.prog 16 #[.string s] w fun e w' => ∃ g cap, e = .returned (.tuple #[.slice (some ⟨g, 0, none⟩) ts.length cap, .int .i64 0, .int .i64 0]) ∧ ts.length ≤ cap ∧ ToksAt w' g ts ∧ w.heap.size ≤ g ∧ g < w'.heap.size ∧ Below w.heap.size w w' := by
  refine (scan_any s w hE (by omega)).mono ?_
  rintro e w' (⟨a, er, hb, _⟩ | ⟨us, v, ht, rfl, hown, hbel⟩)
  · rw [h] at hb; cases hb
  · rw [h] at ht; cases ht
    obtain ⟨g, cap, rfl, hc, hta, h1, h2⟩ := toks_of_own hown hne
    exact ⟨g, cap, rfl, hc, hta, h1, h2, hbel⟩
/-- run's three variables: the tree, the offset, the error; nothing that was there is written -/
structure ABC (w : World) (va : Array Value) (ta : TypeId) (o e : Int) (W : World) : Prop where
  a : W.heap[w.heap.size]? = some (.cells va ta (0, 0))
  b : W.heap[w.heap.size + 1]? = some (.cells #[.int .i64 o] 3 (0, 0))
  c : W.heap[w.heap.size + 2]? = some (.cells #[.int .i64 e] 26 (0, 0))
  gr : w.grownBy W none
section
variable {w W W' : World} {va : Array Value} {ta : TypeId} {o e : Int}
theorem ABC.start (w : World) (va : Array Value) (ta : TypeId) : ∃ W, Hid (W = ((w.alloc (.cells va ta)).alloc (.cells #[.int .i64 0] 3)).alloc (.cells #[.int .i64 0] 26)) ∧ Hid (ABC w va ta 0 0 W) := by
  obtain ⟨h1, h2, h3, h4, _⟩ := alloc3 w (.cells va ta) (.cells #[.int .i64 0] 3) (.cells #[.int .i64 0] 26)
  exact ⟨_, Lib.hid rfl, Lib.hid ⟨h1, h2, h3, gr_below h4 none⟩⟩
theorem ABC.lt (h : ABC w va ta o e W) : w.heap.size + 2 < W.heap.size := lt_of_block h.c
theorem ABC.keep (h : ABC w va ta o e W) {row : Option Nat} (hg : W.grownBy W' row) (hr : ∀ q, row = some q → w.heap.size + 2 < q) : ABC w va ta o e W' :=
  ⟨gr_at hg h.a (fun e => by have := hr _ e.symm; omega), gr_at hg h.b (fun e => by have := hr _ e.symm; omega), gr_at hg h.c (fun e => by have := hr _ e.symm; omega), gr_row h.gr hg (fun q hq => by have := hr q hq; omega)⟩
theorem ABC.setA (h : ABC w va ta o e W) {va' : Array Value} (hg : W.grownBy W' (some w.heap.size)) (ha : W'.heap[w.heap.size]? = some (.cells va' ta (0, 0))) : ABC w va' ta o e W' :=
  ⟨ha, gr_at hg h.b (ne_sm (by omega)), gr_at hg h.c (ne_sm (by omega)), gr_row h.gr hg (fun q hq => by injection hq; omega)⟩
theorem ABC.setB (h : ABC w va ta o e W) (o' : Int) : ABC w va ta o' e (W.setCell ⟨w.heap.size + 1, 0, none⟩ (.int .i64 o')) :=
  ⟨gr_at (gr_set _ _ _ _) h.a (ne_sm (by omega)), heap_set (j := 0) (.int .i64 o') h.b, gr_at (gr_set _ _ _ _) h.c (ne_sm (by omega)), gr_row h.gr (gr_set _ _ _ _) (fun q hq => by injection hq; omega)⟩
theorem ABC.setC (h : ABC w va ta o e W) (e' : Int) : ABC w va ta o e' (W.setCell ⟨w.heap.size + 2, 0, none⟩ (.int .i64 e')) :=
  ⟨gr_at (gr_set _ _ _ _) h.a (ne_sm (by omega)), gr_at (gr_set _ _ _ _) h.b (ne_sm (by omega)), heap_set (j := 0) (.int .i64 e') h.c, gr_row h.gr (gr_set _ _ _ _) (fun q hq => by injection hq; omega)⟩
theorem ABC.below (h : ABC w va ta o e W) : Below w.heap.size w W := gr_fresh h.gr
end
theorem rR3 {P : Program} {ops : Array Oper} {Q : Exit → Act → World → Prop} {md : Region.Mode} {S : World → Prop} {fuel : Nat} {listed : Array Bool} {a : Act} {w : World} {x1 y1 z1 : Op} {x2 y2 z2 : TypeId} {x3 y3 z3 : String} {x4 y4 z4 : Array Edge} {x5 y5 z5 : Option (Nat × Bool)} (i : Nat) (d : Option Nat) (j : Nat) (d' : Option Nat) (k : Nat) (d'' : Option Nat)
    (h : ∀ K' : Act → World → Prop, Shut (∀ a w, S w → (S w → wpAnyH P md ops Q S fuel (listed.setIfInBounds i true) a w) → K' a w) → if Region.wanted ⟨d, x1, x2, x3, x4, x5⟩ (yielded ops a.tmps) = true then Oper.wp P ⟨d, x1, x2, x3, x4, x5⟩ a w K' Q else K' (a.put d undef) w)
    (h' : ∀ K' : Act → World → Prop, Shut (∀ a w, S w → (S w → wpAnyH P md ops Q S fuel (listed.setIfInBounds j true) a w) → K' a w) → if Region.wanted ⟨d', y1, y2, y3, y4, y5⟩ (yielded ops a.tmps) = true then Oper.wp P ⟨d', y1, y2, y3, y4, y5⟩ a w K' Q else K' (a.put d' undef) w)
    (h'' : ∀ K' : Act → World → Prop, Shut (∀ a w, S w → (S w → wpAnyH P md ops Q S fuel (listed.setIfInBounds k true) a w) → K' a w) → if Region.wanted ⟨d'', z1, z2, z3, z4, z5⟩ (yielded ops a.tmps) = true then Oper.wp P ⟨d'', z1, z2, z3, z4, z5⟩ a w K' Q else K' (a.put d'' undef) w)
    (hr : Region.ready md ops listed = [i, j, k] := by kernel_rfl) (hi : ops[i]? = some ⟨d, x1, x2, x3, x4, x5⟩ := by rfl) (hj : ops[j]? = some ⟨d', y1, y2, y3, y4, y5⟩ := by rfl) (hk : ops[k]? = some ⟨d'', z1, z2, z3, z4, z5⟩ := by rfl) : wpAnyH P md ops Q S (fuel + 1) listed a w :=
  wpAnyH_ready hr (by simp) (AllReadyH.cons hi h (AllReadyH.cons hj h' (AllReadyH.cons hk h'' AllReadyH.nil)))
/-- what a cell holds already is written into it -/
theorem set_same {W : World} {b j : Nat} {cs : Array Value} {t : TypeId} {v : Value} (h : W.heap[b]? = some (.cells cs t (0, 0))) (hv : cs[j]? = some v) : W.setCell ⟨b, j, none⟩ v = W := by
  have e : (W.setCell ⟨b, j, none⟩ v).heap = W.heap := by
    refine Array.ext_getElem? fun i => ?_
    by_cases hi : i = b
    · subst hi
      rw [heap_set (j := j) v h, h]
      have e2 : cs.setIfInBounds j v = cs := by
        refine Array.ext_getElem? fun q => ?_
        rw [Array.getElem?_setIfInBounds]
        split
        · rename_i hq
          subst hq
          split
          · exact hv.symm
          · rename_i hs
            rw [Array.getElem?_eq_none (by omega)] at hv
            cases hv
        · rfl
      rw [e2]
    · exact heap_setCell_other W ⟨b, j, none⟩ i v hi
  show { W with heap := (W.setCell ⟨b, j, none⟩ v).heap } = W
  rw [e]
end Go.Proofs.YtdckddkalgnlpaaGreatDoor
namespace Go.Proofs.YtdckddkalgnlpaaGreatDoor
open Go.RowKit Go.Maps Pw
theorem ev_ifp {α : Type} {c : Prop} [Decidable c] {p q : Nat → Pa.R α} {x : Pa.R α} (h : c) (hb : Pa.Ev p x) : Pa.Ev (fun f => if c then p f else q f) x := by
  obtain ⟨F, hb⟩ := hb
  exact ⟨F, fun f hf => (if_pos h).trans (hb f hf)⟩
theorem ev_ifn {α : Type} {c : Prop} [Decidable c] {p q : Nat → Pa.R α} {x : Pa.R α} (h : ¬ c) (hb : Pa.Ev q x) : Pa.Ev (fun f => if c then p f else q f) x := by
  obtain ⟨F, hb⟩ := hb
  exact ⟨F, fun f hf => (if_neg h).trans (hb f hf)⟩
set_option maxRecDepth 100000 in
set_option maxHeartbeats 8000000 in
theorem runP_ok (s : ByteArray) (w : World) (hE : LexEnv w) (hs : s.size ≤ 16384) (ts : List Lex.Tok) (hsc : Lex.scan s.data.toList = .toks ts) :
    Calls Tryz.prog 24 #[.string s, .func (.func 25) #[] #[]] w (RunP w ts) := by
  have HSC := Lib.hid hsc
  obtain ⟨htk, hnq, hl0, hl1⟩ := scan_tkl hsc
  obtain ⟨n, hn⟩ : ∃ q, ts.length - 1 = q := ⟨_, rfl⟩
  unfold RunP
  rw [hn] at htk ⊢
  have HTK := Lib.hid htk
  have HNQ := Lib.hid hnq
  obtain ⟨N, hN⟩ : ∃ q, ts.length = q := ⟨_, rfl⟩
  have HN := Lib.hid hN
  have hNn : N ≤ n + 1 := by omega
  have hNn2 : n + 1 ≤ N := by omega
  have hNf : N ≤ 16385 := by omega
  clear htk hnq hl0 hl1 hn hN hsc
  obtain ⟨w3, HW, A3⟩ := ABC.start w #[.slice none 0 0] 25
  have HE := Lib.hid (hE.keep A3.out.below)
  have hmf := mkFunc
  clear hE
  go_enter_defers Tryz.func24, Tryz.ntmps24
  go_upto_region 1 with fail
  rw [← HW.out]
  clear HW
  obtain ⟨la, ca0, fa0⟩ := cells1 A3.out.a
  obtain ⟨lb, cb, fb⟩ := cells1 A3.out.b
  obtain ⟨lc, cc, fc⟩ := cells1 A3.out.c
  go_wp2_with fail
  clear la ca0 fa0 lb cb fb lc cc fc
  refine (scan_toks2 s ts w3 HE.out hs HSC.out (fun h => by have := HN.out; rw [h] at this; simp at this; omega)).mono ?_
  rintro e w4 ⟨g, cap, rfl, hcap, hta, hg1, hg2, hb4⟩
  rw [HN.out] at hcap ⊢
  have hl3 := A3.out.lt
  have A4 := Lib.hid (A3.out.keep (gr_below hb4 none) (fun _ h => by cases h))
  clear A3 hb4
  obtain ⟨la, ca0, fa0⟩ := cells1 A4.out.a
  obtain ⟨lb, cb, fb⟩ := cells1 A4.out.b
  obtain ⟨lc, cc, fc⟩ := cells1 A4.out.c
  obtain ⟨w5, HW⟩ : ∃ q, Hid (q = (w4.setCell ⟨w.heap.size + 1, 0, none⟩ (.int .i64 0)).setCell ⟨w.heap.size + 2, 0, none⟩ (.int .i64 0)) := ⟨_, Lib.hid rfl⟩
  have A5 := Lib.hid ((A4.out.setB 0).setC 0)
  rw [← HW.out] at A5
  have htb : ToksAt (w4.setCell ⟨w.heap.size + 1, 0, none⟩ (.int .i64 0)) g ts := (fun j t hj => ⟨gr_cell (gr_set w4 (w.heap.size + 1) 0 (.int .i64 0)) ((hta j t hj).1) (ne_sm (by omega)), gr_cell (gr_set w4 (w.heap.size + 1) 0 (.int .i64 0)) ((hta j t hj).2.1) (ne_sm (by omega)), gr_cell (gr_set w4 (w.heap.size + 1) 0 (.int .i64 0)) ((hta j t hj).2.2.1) (ne_sm (by omega)), gr_cell (gr_set w4 (w.heap.size + 1) 0 (.int .i64 0)) ((hta j t hj).2.2.2) (ne_sm (by omega))⟩)
  have htc : ToksAt w5 g ts := by rw [HW.out]; exact (fun j t hj => ⟨gr_cell (gr_set _ (w.heap.size + 2) 0 (.int .i64 0)) ((htb j t hj).1) (ne_sm (by omega)), gr_cell (gr_set _ (w.heap.size + 2) 0 (.int .i64 0)) ((htb j t hj).2.1) (ne_sm (by omega)), gr_cell (gr_set _ (w.heap.size + 2) 0 (.int .i64 0)) ((htb j t hj).2.2.1) (ne_sm (by omega)), gr_cell (gr_set _ (w.heap.size + 2) 0 (.int .i64 0)) ((htb j t hj).2.2.2) (ne_sm (by omega))⟩)
  have hz5 : w4.heap.size ≤ w5.heap.size := by rw [HW.out]; simp
  have HTC := Lib.hid htc
  clear hta htb htc
  go_upto_region 2 with fail
  rw [← HW.out]
  clear la ca0 fa0 lb cb fb lc cc fc HW A4
  have hbp := below_box w5 (.cells #[.slice (some ⟨g, 0, none⟩) N cap, .int .i64 0] 102)
  have hnp := new_at (w := w5) (o := .cells #[.slice (some ⟨g, 0, none⟩) N cap, .int .i64 0] 102) rfl
  have hl5 := A5.out.lt
  obtain ⟨P, HPN⟩ : ∃ q, Hid (q = w5.heap.size) := ⟨_, Lib.hid rfl⟩
  obtain ⟨w6, HW⟩ : ∃ q, Hid (q = w5.alloc (.cells #[.slice (some ⟨g, 0, none⟩) N cap, .int .i64 0] 102)) := ⟨_, Lib.hid rfl⟩
  rw [← HW.out, ← HPN.out] at hnp
  rw [← HW.out] at hbp
  have hp1 : P ≤ w5.heap.size := Nat.le_of_eq HPN.out
  have hp2 : w5.heap.size ≤ P := Nat.le_of_eq HPN.out.symm
  have hp3 : P + 1 ≤ w6.heap.size := lt_of_block hnp
  have A6 := Lib.hid (A5.out.keep (gr_below hbp none) (fun _ h => by cases h))
  have HNE : Hid (N = n + 1) := Lib.hid (by omega)
  have hps : PS ts n g cap P 0 w6 := ⟨by rw [← HNE.out]; exact hnp, fun j t hj => by
    obtain ⟨a1, a2, a3, a4⟩ := HTC.out j t hj
    exact ⟨cell_keep' hbp a1, cell_keep' hbp a2, cell_keep' hbp a3, cell_keep' hbp a4⟩, by have := hbp.size; omega, by omega, Nat.zero_le _, by omega⟩
  have HPS := Lib.hid hps
  clear hps hnp HTC hbp
  obtain ⟨la, ca0, fa0⟩ := cells1 A5.out.a
  obtain ⟨lb, cb, fb⟩ := cells1 A5.out.b
  obtain ⟨lc, cc, fc⟩ := cells1 A5.out.c
  go_wp2_with fail
  clear la ca0 fa0 lb cb fb lc cc fc
  rw [← HPN.out, ← HW.out]
  clear HPN HW A5
  refine (program_any9 HTK.out HNQ.out 0 w6 HPS.out).mono ?_
  rintro e w7 ⟨hg_, ⟨cs, v, k1, hev, rfl, hsl, hrc, hac, hlt1, hp7⟩ | ⟨k1, t, hev_, rfl, hle_, hkn_, ht_⟩⟩
  · obtain ⟨pv, cv, rfl⟩ := hsl.form
    obtain ⟨NV, hNV⟩ : ∃ q, cs.length = q := ⟨_, rfl⟩
    rw [hNV] at hsl ⊢
    have HRC := Lib.hid hrc
    have HAC := Lib.hid hac
    clear hrc hac
    have A7 := Lib.hid (A6.out.keep hg_ (fun q h => by injection h; omega))
    have hz7 := hg_.size
    clear A6 hg_
    have HEV := Lib.hid hev
    have hkn1 := hp7.le
    obtain ⟨t, ht_⟩ := HTK.out.get (k := k1) hkn1
    have HT := Lib.hid ht_
    have hl7 := A7.out.lt
    clear hev ht_ hNV
    obtain ⟨la, ca0, fa0⟩ := cells1 A7.out.a
    obtain ⟨lb, cb, fb⟩ := cells1 A7.out.b
    obtain ⟨lc, cc, fc⟩ := cells1 A7.out.c
    obtain ⟨w8, HW⟩ : ∃ q, Hid (q = (w7.setCell ⟨w.heap.size, 0, none⟩ (.slice pv NV cv))) := ⟨_, Lib.hid rfl⟩
    have A8 : Hid (ABC w #[.slice pv NV cv] 25 0 0 w8) := by rw [HW.out]; exact A7.out.setA (gr_set _ _ 0 (.slice pv NV cv)) (heap_set (j := 0) (.slice pv NV cv) A7.out.a)
    have HS8 : Hid (SlC (hide (upL w6.heap.size []) w8) (.slice pv NV cv) cs) := by rw [HW.out]; exact hsl.inc (inc_set (by omega))
    have HP8 : Hid (PS ts n g cap P k1 w8) := by rw [HW.out]; exact (hp7).keep (gr_set _ _ _ _) (ne_sm (by omega)) (ne_sm (by omega))
    have hz8 : w7.heap.size ≤ w8.heap.size := by rw [HW.out]; simp
    clear hsl hp7
    go_upto_region 7 with fail
    rw [← HW.out]
    clear la ca0 fa0 lb cb fb lc cc fc HW A7
    by_cases hk0 : t.kind = 0
    · have kz : ((t.kind : Int) != 0) = false := by rw [bne, show ((0 : Int)) = ((0 : Nat) : Int) from rfl, kind_beq, hk0, beq_self_eq_true, Bool.not_true]
      have hf0 := field0
      obtain ⟨la, ca0, fa0⟩ := cells1 A8.out.a
      obtain ⟨lb, cb, fb⟩ := cells1 A8.out.b
      obtain ⟨lc, cc, fc⟩ := cells1 A8.out.c
      go_wp2_with fail
      clear la ca0 fa0 lb cb fb lc cc fc
      refine (next_any HP8.out HTK.out HT.out).mono ?_
      rintro e wn ⟨rfl, hbn⟩
      unfold tkV
      have AN := Lib.hid (A8.out.keep (gr_below hbn none) (fun _ h => by cases h))
      have hzn := hbn.size
      have HSN := Lib.hid (HS8.out.inc (up_step (l' := []) (B' := w6.heap.size) (gr_below hbn none) (fun _ h => by cases h) (fun _ _ h => h)))
      have HPN := Lib.hid (HP8.out.below hbn)
      clear hbn A8 HS8 HP8
      obtain ⟨la, ca0, fa0⟩ := cells1 AN.out.a
      obtain ⟨lb, cb, fb⟩ := cells1 AN.out.b
      obtain ⟨lc, cc, fc⟩ := cells1 AN.out.c
      go_wp2_with fail
      rw [set_same AN.out.a (j := 0) (v := .slice pv NV cv) rfl, set_same AN.out.b (j := 0) (v := .int .i64 0) rfl, set_same AN.out.c (j := 0) (v := .int .i64 0) rfl]
      refine leaves_cons (f := 56) (args := #[.pointer (some ⟨w.heap.size, 0, none⟩), .pointer (some ⟨w.heap.size + 1, 0, none⟩), .pointer (some ⟨w.heap.size + 2, 0, none⟩)]) (by simp) (by simp [go_sem]) ?_
      refine (catchP_idle (w.heap.size) (w.heap.size + 1) (w.heap.size + 2) _).mono ?_
      rintro e9 u9 w9' ⟨rfl, rfl, rfl⟩
      have hk9 : k1 = n := by
        rcases Nat.lt_or_ge k1 n with h | h
        · exact absurd hk0 (HTK.out.kind k1 t h HT.out)
        · omega
      exact ⟨.tuple #[.agg #[.slice pv NV cv], .int .i64 0, .int .i64 0], by simp [results, Tryz.results24, go_sem, *], AN.out.below, .inl ⟨cs, .slice pv NV cv, HEV.out _ (.step (q := fun _ => .ok cs []) (fun f => by rw [Pa.pP, if_pos ((head_kind HTK.out hkn1 HT.out).trans hk0), hk9, Pa.rest_end]) (.const _)), rfl, HSN.out.inc (up_mono (B := w6.heap.size) (l := []) (B' := w.heap.size) (l' := []) (by intro k hk h; simp only [List.not_mem_nil, or_false] at h ⊢; omega))⟩⟩
    · have kz : ((t.kind : Int) != 0) = true := by rw [bne, show ((0 : Int)) = ((0 : Nat) : Int) from rfl, kind_beq, beq_eq_false_iff_ne.2 hk0, Bool.not_false]
      have hf0 := field0
      obtain ⟨la, ca0, fa0⟩ := cells1 A8.out.a
      obtain ⟨lb, cb, fb⟩ := cells1 A8.out.b
      obtain ⟨lc, cc, fc⟩ := cells1 A8.out.c
      go_wp2_with fail
      clear la ca0 fa0 lb cb fb lc cc fc
      refine (next_any HP8.out HTK.out HT.out).mono ?_
      rintro e wn ⟨rfl, hbn⟩
      unfold tkV
      have AN := Lib.hid (A8.out.keep (gr_below hbn none) (fun _ h => by cases h))
      have hzn := hbn.size
      have HSN := Lib.hid (HS8.out.inc (up_step (l' := []) (B' := w6.heap.size) (gr_below hbn none) (fun _ h => by cases h) (fun _ _ h => h)))
      have HPN := Lib.hid (HP8.out.below hbn)
      clear hbn A8 HS8 HP8
      have hlt9 := kind_lt HTK.out hkn1 HT.out hk0
      obtain ⟨la, ca0, fa0⟩ := cells1 AN.out.a
      obtain ⟨lb, cb, fb⟩ := cells1 AN.out.b
      obtain ⟨lc, cc, fc⟩ := cells1 AN.out.c
      go_wp2_with fail
      clear la ca0 fa0 lb cb fb lc cc fc
      refine (fail_any HPN.out HTK.out HT.out).mono ?_
      rintro e wf ⟨rfl, hbf⟩
      have AF := Lib.hid (AN.out.keep (gr_below hbf none) (fun _ h => by cases h))
      have hzf := hbf.size
      clear hbf AN
      obtain ⟨la, ca0, fa0⟩ := cells1 AF.out.a
      obtain ⟨lb, cb, fb⟩ := cells1 AF.out.b
      obtain ⟨lc, cc, fc⟩ := cells1 AF.out.c
      go_wp2_with fail
      refine leaves_cons (f := 56) (args := #[.pointer (some ⟨w.heap.size, 0, none⟩), .pointer (some ⟨w.heap.size + 1, 0, none⟩), .pointer (some ⟨w.heap.size + 2, 0, none⟩)]) (by simp) (by simp [go_sem]) ?_
      refine (catchP_fail (w.heap.size) (w.heap.size + 1) (w.heap.size + 2) (.slice pv NV cv) 0 0 t.pos [] wf ca0 fa0 cb fb cc fc (by omega) (by omega) (by omega)).mono ?_
      rintro e9 u9 w9 ⟨rfl, rfl, rfl⟩
      have AZ := Lib.hid ((((AF.out.setA (gr_set _ _ 0 (.slice none 0 0)) (heap_set (j := 0) (.slice none 0 0) AF.out.a)).setB t.pos).setC 3).keep (gr_below (below_box _ (.cells #[.slice none 0 0] 25)) none) (fun _ h => by cases h))
      obtain ⟨wz, HZ⟩ : ∃ q, Hid (q = (((wf.setCell ⟨w.heap.size, 0, none⟩ (.slice none 0 0)).setCell ⟨w.heap.size + 1, 0, none⟩ (.int .i64 t.pos)).setCell ⟨w.heap.size + 2, 0, none⟩ (.int .i64 3)).alloc (.cells #[.slice none 0 0] 25)) := ⟨_, Lib.hid rfl⟩
      clear la ca0 fa0 lb cb fb lc cc fc
      have AZ2 : Hid (ABC w #[.slice none 0 0] 25 t.pos 3 wz) := by rw [HZ.out]; exact AZ
      rw [← HZ.out]
      clear HZ AZ
      obtain ⟨la, ca0, fa0⟩ := cells1 AZ2.out.a
      obtain ⟨lb, cb, fb⟩ := cells1 AZ2.out.b
      obtain ⟨lc, cc, fc⟩ := cells1 AZ2.out.c
      exact ⟨.tuple #[.agg #[.slice none 0 0], .int .i64 t.pos, .int .i64 3], by simp [results, Tryz.results24, go_sem, *], AZ2.out.below, .inr ⟨k1, t, HEV.out _ (ev_pP HTK.out hlt9 (.bad (.cong (fun f => pC_bad HTK.out hkn1 HAC.out HRC.out f) (.const _)))), by omega, HT.out, rfl⟩⟩
  · have A7 := Lib.hid (A6.out.keep hg_ (fun q h => by injection h; omega))
    have hz7 := hg_.size
    clear A6 hg_
    obtain ⟨la, ca0, fa0⟩ := cells1 A7.out.a
    obtain ⟨lb, cb, fb⟩ := cells1 A7.out.b
    obtain ⟨lc, cc, fc⟩ := cells1 A7.out.c
    go_wp2_with fail
    refine leaves_cons (f := 56) (args := #[.pointer (some ⟨w.heap.size, 0, none⟩), .pointer (some ⟨w.heap.size + 1, 0, none⟩), .pointer (some ⟨w.heap.size + 2, 0, none⟩)]) (by simp) (by simp [go_sem]) ?_
    refine (catchP_fail (w.heap.size) (w.heap.size + 1) (w.heap.size + 2) (.slice none 0 0) 0 0 t.pos [] w7 ca0 fa0 cb fb cc fc (by omega) (by omega) (by omega)).mono ?_
    rintro e9 u9 w9 ⟨rfl, rfl, rfl⟩
    have AZ := Lib.hid ((((A7.out.setA (gr_set _ _ 0 (.slice none 0 0)) (heap_set (j := 0) (.slice none 0 0) A7.out.a)).setB t.pos).setC 3).keep (gr_below (below_box _ (.cells #[.slice none 0 0] 25)) none) (fun _ h => by cases h))
    obtain ⟨wz, HZ⟩ : ∃ q, Hid (q = (((w7.setCell ⟨w.heap.size, 0, none⟩ (.slice none 0 0)).setCell ⟨w.heap.size + 1, 0, none⟩ (.int .i64 t.pos)).setCell ⟨w.heap.size + 2, 0, none⟩ (.int .i64 3)).alloc (.cells #[.slice none 0 0] 25)) := ⟨_, Lib.hid rfl⟩
    clear la ca0 fa0 lb cb fb lc cc fc
    have AZ2 : Hid (ABC w #[.slice none 0 0] 25 t.pos 3 wz) := by rw [HZ.out]; exact AZ
    rw [← HZ.out]
    clear HZ AZ
    obtain ⟨la, ca0, fa0⟩ := cells1 AZ2.out.a
    obtain ⟨lb, cb, fb⟩ := cells1 AZ2.out.b
    obtain ⟨lc, cc, fc⟩ := cells1 AZ2.out.c
    exact ⟨.tuple #[.agg #[.slice none 0 0], .int .i64 t.pos, .int .i64 3], by simp [results, Tryz.results24, go_sem, *], AZ2.out.below, .inr ⟨k1, t, hev_, by omega, ht_, rfl⟩⟩
set_option maxRecDepth 100000 in
set_option maxHeartbeats 8000000 in
theorem runE_ok (s : ByteArray) (w : World) (hE : LexEnv w) (hs : s.size ≤ 16384) (ts : List Lex.Tok) (hsc : Lex.scan s.data.toList = .toks ts) :
    Calls Tryz.prog 32 #[.string s, .func (.func 33) #[] #[]] w (RunE w ts) := by
  have HSC := Lib.hid hsc
  obtain ⟨htk, hnq, hl0, hl1⟩ := scan_tkl hsc
  obtain ⟨n, hn⟩ : ∃ q, ts.length - 1 = q := ⟨_, rfl⟩
  unfold RunE
  rw [hn] at htk ⊢
  have HTK := Lib.hid htk
  have HNQ := Lib.hid hnq
  obtain ⟨N, hN⟩ : ∃ q, ts.length = q := ⟨_, rfl⟩
  have HN := Lib.hid hN
  have hNn : N ≤ n + 1 := by omega
  have hNn2 : n + 1 ≤ N := by omega
  have hNf : N ≤ 16385 := by omega
  clear htk hnq hl0 hl1 hn hN hsc
  obtain ⟨w3, HW, A3⟩ := ABC.start w #[.int .i64 0, .int .i64 0, .int .i64 0, .string ⟨#[]⟩, .bool false, .slice none 0 0] 33
  have HE := Lib.hid (hE.keep A3.out.below)
  have hmf := mkFunc
  clear hE
  go_enter_defers Tryz.func32, Tryz.ntmps32
  go_upto_region 1 with fail
  rw [← HW.out]
  clear HW
  obtain ⟨la, ca0, fa0, ca1, fa1, ca2, fa2, ca3, fa3, ca4, fa4, ca5, fa5⟩ := cells6 A3.out.a
  obtain ⟨lb, cb, fb⟩ := cells1 A3.out.b
  obtain ⟨lc, cc, fc⟩ := cells1 A3.out.c
  go_wp2_with fail
  clear la ca0 fa0 ca1 fa1 ca2 fa2 ca3 fa3 ca4 fa4 ca5 fa5 lb cb fb lc cc fc
  refine (scan_toks2 s ts w3 HE.out hs HSC.out (fun h => by have := HN.out; rw [h] at this; simp at this; omega)).mono ?_
  rintro e w4 ⟨g, cap, rfl, hcap, hta, hg1, hg2, hb4⟩
  rw [HN.out] at hcap ⊢
  have hl3 := A3.out.lt
  have A4 := Lib.hid (A3.out.keep (gr_below hb4 none) (fun _ h => by cases h))
  clear A3 hb4
  obtain ⟨la, ca0, fa0, ca1, fa1, ca2, fa2, ca3, fa3, ca4, fa4, ca5, fa5⟩ := cells6 A4.out.a
  obtain ⟨lb, cb, fb⟩ := cells1 A4.out.b
  obtain ⟨lc, cc, fc⟩ := cells1 A4.out.c
  obtain ⟨w5, HW⟩ : ∃ q, Hid (q = (w4.setCell ⟨w.heap.size + 1, 0, none⟩ (.int .i64 0)).setCell ⟨w.heap.size + 2, 0, none⟩ (.int .i64 0)) := ⟨_, Lib.hid rfl⟩
  have A5 := Lib.hid ((A4.out.setB 0).setC 0)
  rw [← HW.out] at A5
  have htb : ToksAt (w4.setCell ⟨w.heap.size + 1, 0, none⟩ (.int .i64 0)) g ts := (fun j t hj => ⟨gr_cell (gr_set w4 (w.heap.size + 1) 0 (.int .i64 0)) ((hta j t hj).1) (ne_sm (by omega)), gr_cell (gr_set w4 (w.heap.size + 1) 0 (.int .i64 0)) ((hta j t hj).2.1) (ne_sm (by omega)), gr_cell (gr_set w4 (w.heap.size + 1) 0 (.int .i64 0)) ((hta j t hj).2.2.1) (ne_sm (by omega)), gr_cell (gr_set w4 (w.heap.size + 1) 0 (.int .i64 0)) ((hta j t hj).2.2.2) (ne_sm (by omega))⟩)
  have htc : ToksAt w5 g ts := by rw [HW.out]; exact (fun j t hj => ⟨gr_cell (gr_set _ (w.heap.size + 2) 0 (.int .i64 0)) ((htb j t hj).1) (ne_sm (by omega)), gr_cell (gr_set _ (w.heap.size + 2) 0 (.int .i64 0)) ((htb j t hj).2.1) (ne_sm (by omega)), gr_cell (gr_set _ (w.heap.size + 2) 0 (.int .i64 0)) ((htb j t hj).2.2.1) (ne_sm (by omega)), gr_cell (gr_set _ (w.heap.size + 2) 0 (.int .i64 0)) ((htb j t hj).2.2.2) (ne_sm (by omega))⟩)
  have hz5 : w4.heap.size ≤ w5.heap.size := by rw [HW.out]; simp
  have HTC := Lib.hid htc
  clear hta htb htc
  go_upto_region 2 with fail
  rw [← HW.out]
  clear la ca0 fa0 ca1 fa1 ca2 fa2 ca3 fa3 ca4 fa4 ca5 fa5 lb cb fb lc cc fc HW A4
  have hbp := below_box w5 (.cells #[.slice (some ⟨g, 0, none⟩) N cap, .int .i64 0] 102)
  have hnp := new_at (w := w5) (o := .cells #[.slice (some ⟨g, 0, none⟩) N cap, .int .i64 0] 102) rfl
  have hl5 := A5.out.lt
  obtain ⟨P, HPN⟩ : ∃ q, Hid (q = w5.heap.size) := ⟨_, Lib.hid rfl⟩
  obtain ⟨w6, HW⟩ : ∃ q, Hid (q = w5.alloc (.cells #[.slice (some ⟨g, 0, none⟩) N cap, .int .i64 0] 102)) := ⟨_, Lib.hid rfl⟩
  rw [← HW.out, ← HPN.out] at hnp
  rw [← HW.out] at hbp
  have hp1 : P ≤ w5.heap.size := Nat.le_of_eq HPN.out
  have hp2 : w5.heap.size ≤ P := Nat.le_of_eq HPN.out.symm
  have hp3 : P + 1 ≤ w6.heap.size := lt_of_block hnp
  have A6 := Lib.hid (A5.out.keep (gr_below hbp none) (fun _ h => by cases h))
  have HNE : Hid (N = n + 1) := Lib.hid (by omega)
  have hps : PS ts n g cap P 0 w6 := ⟨by rw [← HNE.out]; exact hnp, fun j t hj => by
    obtain ⟨a1, a2, a3, a4⟩ := HTC.out j t hj
    exact ⟨cell_keep' hbp a1, cell_keep' hbp a2, cell_keep' hbp a3, cell_keep' hbp a4⟩, by have := hbp.size; omega, by omega, Nat.zero_le _, by omega⟩
  have HPS := Lib.hid hps
  clear hps hnp HTC hbp
  obtain ⟨la, ca0, fa0, ca1, fa1, ca2, fa2, ca3, fa3, ca4, fa4, ca5, fa5⟩ := cells6 A5.out.a
  obtain ⟨lb, cb, fb⟩ := cells1 A5.out.b
  obtain ⟨lc, cc, fc⟩ := cells1 A5.out.c
  go_wp2_with fail
  clear la ca0 fa0 ca1 fa1 ca2 fa2 ca3 fa3 ca4 fa4 ca5 fa5 lb cb fb lc cc fc
  rw [← HPN.out, ← HW.out]
  clear HPN HW A5
  refine (pexpr_any HTK.out 0 w6 HPS.out).mono ?_
  rintro e w7 ⟨hg_, ⟨e1, v, k1, hev, rfl, ⟨a, rfl, hbd, hsl⟩, hlt1, hp7⟩ | ⟨k1, t, hev_, rfl, hle_, hkn_, ht_⟩⟩
  · obtain ⟨pv, cv, rfl, _⟩ := hsl.form
    obtain ⟨NV, hNV⟩ : ∃ q, e1.args.length = q := ⟨_, rfl⟩
    rw [hNV] at hsl ⊢
    have HBD := Lib.hid hbd
    clear hbd
    unfold exprV
    have A7 := Lib.hid (A6.out.keep hg_ (fun q h => by injection h; omega))
    have hz7 := hg_.size
    clear A6 hg_
    have HEV := Lib.hid hev
    have hkn1 := hp7.le
    obtain ⟨t, ht_⟩ := HTK.out.get (k := k1) hkn1
    have HT := Lib.hid ht_
    have hl7 := A7.out.lt
    clear hev ht_ hNV
    obtain ⟨la, ca0, fa0, ca1, fa1, ca2, fa2, ca3, fa3, ca4, fa4, ca5, fa5⟩ := cells6 A7.out.a
    obtain ⟨lb, cb, fb⟩ := cells1 A7.out.b
    obtain ⟨lc, cc, fc⟩ := cells1 A7.out.c
    obtain ⟨w8, HW⟩ : ∃ q, Hid (q = ((((((w7.setCell ⟨w.heap.size, 0, none⟩ (.int .i64 e1.kind)).setCell ⟨w.heap.size, 1, none⟩ (.int .i64 e1.op)).setCell ⟨w.heap.size, 2, none⟩ (.int .i64 e1.int)).setCell ⟨w.heap.size, 3, none⟩ (.string e1.name)).setCell ⟨w.heap.size, 4, none⟩ (.bool e1.at_)).setCell ⟨w.heap.size, 5, none⟩ (.slice pv NV cv))) := ⟨_, Lib.hid rfl⟩
    have A8 : Hid (ABC w #[.int .i64 e1.kind, .int .i64 e1.op, .int .i64 e1.int, .string e1.name, .bool e1.at_, .slice pv NV cv] 33 0 0 w8) := by rw [HW.out]; exact A7.out.setA (set6_gr w7 w.heap.size (.int .i64 e1.kind) (.int .i64 e1.op) (.int .i64 e1.int) (.string e1.name) (.bool e1.at_) (.slice pv NV cv)) (set6_blk (.int .i64 e1.kind) (.int .i64 e1.op) (.int .i64 e1.int) (.string e1.name) (.bool e1.at_) (.slice pv NV cv) A7.out.a)
    have HS8 : Hid (SlE (hide (upL w6.heap.size []) w8) (.slice pv NV cv) e1.args) := by rw [HW.out]; exact hsl.inc (((((((Inc.refl _).trans (inc_set (by omega))).trans (inc_set (by omega))).trans (inc_set (by omega))).trans (inc_set (by omega))).trans (inc_set (by omega))).trans (inc_set (by omega)))
    have HP8 : Hid (PS ts n g cap P k1 w8) := by rw [HW.out]; exact ((((((hp7).keep (gr_set _ _ _ _) (ne_sm (by omega)) (ne_sm (by omega))).keep (gr_set _ _ _ _) (ne_sm (by omega)) (ne_sm (by omega))).keep (gr_set _ _ _ _) (ne_sm (by omega)) (ne_sm (by omega))).keep (gr_set _ _ _ _) (ne_sm (by omega)) (ne_sm (by omega))).keep (gr_set _ _ _ _) (ne_sm (by omega)) (ne_sm (by omega))).keep (gr_set _ _ _ _) (ne_sm (by omega)) (ne_sm (by omega))
    have hz8 : w7.heap.size ≤ w8.heap.size := by rw [HW.out]; simp
    clear hsl hp7
    go_upto_region 7 with fail
    rw [← HW.out]
    clear la ca0 fa0 ca1 fa1 ca2 fa2 ca3 fa3 ca4 fa4 ca5 fa5 lb cb fb lc cc fc HW A7
    by_cases hk0 : t.kind = 0
    · have kz : ((t.kind : Int) != 0) = false := by rw [bne, show ((0 : Int)) = ((0 : Nat) : Int) from rfl, kind_beq, hk0, beq_self_eq_true, Bool.not_true]
      have hf0 := field0
      obtain ⟨la, ca0, fa0, ca1, fa1, ca2, fa2, ca3, fa3, ca4, fa4, ca5, fa5⟩ := cells6 A8.out.a
      obtain ⟨lb, cb, fb⟩ := cells1 A8.out.b
      obtain ⟨lc, cc, fc⟩ := cells1 A8.out.c
      go_wp2_with fail
      clear la ca0 fa0 ca1 fa1 ca2 fa2 ca3 fa3 ca4 fa4 ca5 fa5 lb cb fb lc cc fc
      refine (next_any HP8.out HTK.out HT.out).mono ?_
      rintro e wn ⟨rfl, hbn⟩
      unfold tkV
      have AN := Lib.hid (A8.out.keep (gr_below hbn none) (fun _ h => by cases h))
      have hzn := hbn.size
      have HSN := Lib.hid (HS8.out.inc (up_step (l' := []) (B' := w6.heap.size) (gr_below hbn none) (fun _ h => by cases h) (fun _ _ h => h)))
      have HPN := Lib.hid (HP8.out.below hbn)
      clear hbn A8 HS8 HP8
      obtain ⟨la, ca0, fa0, ca1, fa1, ca2, fa2, ca3, fa3, ca4, fa4, ca5, fa5⟩ := cells6 AN.out.a
      obtain ⟨lb, cb, fb⟩ := cells1 AN.out.b
      obtain ⟨lc, cc, fc⟩ := cells1 AN.out.c
      go_wp2_with fail
      rw [set_same AN.out.a (j := 0) (v := .int .i64 e1.kind) rfl, set_same AN.out.a (j := 1) (v := .int .i64 e1.op) rfl, set_same AN.out.a (j := 2) (v := .int .i64 e1.int) rfl, set_same AN.out.a (j := 3) (v := .string e1.name) rfl, set_same AN.out.a (j := 4) (v := .bool e1.at_) rfl, set_same AN.out.a (j := 5) (v := .slice pv NV cv) rfl, set_same AN.out.b (j := 0) (v := .int .i64 0) rfl, set_same AN.out.c (j := 0) (v := .int .i64 0) rfl]
      refine leaves_cons (f := 69) (args := #[.pointer (some ⟨w.heap.size, 0, none⟩), .pointer (some ⟨w.heap.size + 1, 0, none⟩), .pointer (some ⟨w.heap.size + 2, 0, none⟩)]) (by simp) (by simp [go_sem]) ?_
      refine (catchE_idle (w.heap.size) (w.heap.size + 1) (w.heap.size + 2) _).mono ?_
      rintro e9 u9 w9' ⟨rfl, rfl, rfl⟩
      have hk9 : k1 = n := by
        rcases Nat.lt_or_ge k1 n with h | h
        · exact absurd hk0 (HTK.out.kind k1 t h HT.out)
        · omega
      exact ⟨.tuple #[exprV e1 (.slice pv NV cv), .int .i64 0, .int .i64 0], by simp [results, Tryz.results32, go_sem, exprV, *], AN.out.below, .inl ⟨e1, _, .ok HEV.out (by rw [hk9, Pa.rest_end]; exact ev_ifp rfl (.const _)), rfl, ⟨_, rfl, HBD.out, HSN.out.inc (up_mono (B := w6.heap.size) (l := []) (B' := w.heap.size) (l' := []) (by intro k hk h; simp only [List.not_mem_nil, or_false] at h ⊢; omega))⟩⟩⟩
    · have kz : ((t.kind : Int) != 0) = true := by rw [bne, show ((0 : Int)) = ((0 : Nat) : Int) from rfl, kind_beq, beq_eq_false_iff_ne.2 hk0, Bool.not_false]
      have hf0 := field0
      obtain ⟨la, ca0, fa0, ca1, fa1, ca2, fa2, ca3, fa3, ca4, fa4, ca5, fa5⟩ := cells6 A8.out.a
      obtain ⟨lb, cb, fb⟩ := cells1 A8.out.b
      obtain ⟨lc, cc, fc⟩ := cells1 A8.out.c
      go_wp2_with fail
      clear la ca0 fa0 ca1 fa1 ca2 fa2 ca3 fa3 ca4 fa4 ca5 fa5 lb cb fb lc cc fc
      refine (next_any HP8.out HTK.out HT.out).mono ?_
      rintro e wn ⟨rfl, hbn⟩
      unfold tkV
      have AN := Lib.hid (A8.out.keep (gr_below hbn none) (fun _ h => by cases h))
      have hzn := hbn.size
      have HSN := Lib.hid (HS8.out.inc (up_step (l' := []) (B' := w6.heap.size) (gr_below hbn none) (fun _ h => by cases h) (fun _ _ h => h)))
      have HPN := Lib.hid (HP8.out.below hbn)
      clear hbn A8 HS8 HP8
      have hlt9 := kind_lt HTK.out hkn1 HT.out hk0
      obtain ⟨la, ca0, fa0, ca1, fa1, ca2, fa2, ca3, fa3, ca4, fa4, ca5, fa5⟩ := cells6 AN.out.a
      obtain ⟨lb, cb, fb⟩ := cells1 AN.out.b
      obtain ⟨lc, cc, fc⟩ := cells1 AN.out.c
      go_wp2_with fail
      clear la ca0 fa0 ca1 fa1 ca2 fa2 ca3 fa3 ca4 fa4 ca5 fa5 lb cb fb lc cc fc
      refine (fail_any HPN.out HTK.out HT.out).mono ?_
      rintro e wf ⟨rfl, hbf⟩
      have AF := Lib.hid (AN.out.keep (gr_below hbf none) (fun _ h => by cases h))
      have hzf := hbf.size
      clear hbf AN
      obtain ⟨la, ca0, fa0, ca1, fa1, ca2, fa2, ca3, fa3, ca4, fa4, ca5, fa5⟩ := cells6 AF.out.a
      obtain ⟨lb, cb, fb⟩ := cells1 AF.out.b
      obtain ⟨lc, cc, fc⟩ := cells1 AF.out.c
      go_wp2_with fail
      refine leaves_cons (f := 69) (args := #[.pointer (some ⟨w.heap.size, 0, none⟩), .pointer (some ⟨w.heap.size + 1, 0, none⟩), .pointer (some ⟨w.heap.size + 2, 0, none⟩)]) (by simp) (by simp [go_sem]) ?_
      refine (catchE_fail (w.heap.size) (w.heap.size + 1) (w.heap.size + 2) (.int .i64 e1.kind) (.int .i64 e1.op) (.int .i64 e1.int) (.string e1.name) (.bool e1.at_) (.slice pv NV cv) 0 0 t.pos [] wf ca0 fa0 ca1 fa1 ca2 fa2 ca3 fa3 ca4 fa4 ca5 fa5 cb fb cc fc (by omega) (by omega) (by omega)).mono ?_
      rintro e9 u9 w9 ⟨rfl, rfl, rfl⟩
      have AZ := Lib.hid ((((AF.out.setA (set6_gr wf w.heap.size (.int .i64 0) (.int .i64 0) (.int .i64 0) (.string ⟨#[]⟩) (.bool false) (.slice none 0 0)) (set6_blk (.int .i64 0) (.int .i64 0) (.int .i64 0) (.string ⟨#[]⟩) (.bool false) (.slice none 0 0) AF.out.a)).setB t.pos).setC 3).keep (gr_below (below_box _ (.cells #[.int .i64 0, .int .i64 0, .int .i64 0, .string ⟨#[]⟩, .bool false, .slice none 0 0] 33)) none) (fun _ h => by cases h))
      obtain ⟨wz, HZ⟩ : ∃ q, Hid (q = ((((((((wf.setCell ⟨w.heap.size, 0, none⟩ (.int .i64 0)).setCell ⟨w.heap.size, 1, none⟩ (.int .i64 0)).setCell ⟨w.heap.size, 2, none⟩ (.int .i64 0)).setCell ⟨w.heap.size, 3, none⟩ (.string ⟨#[]⟩)).setCell ⟨w.heap.size, 4, none⟩ (.bool false)).setCell ⟨w.heap.size, 5, none⟩ (.slice none 0 0)).setCell ⟨w.heap.size + 1, 0, none⟩ (.int .i64 t.pos)).setCell ⟨w.heap.size + 2, 0, none⟩ (.int .i64 3)).alloc (.cells #[.int .i64 0, .int .i64 0, .int .i64 0, .string ⟨#[]⟩, .bool false, .slice none 0 0] 33)) := ⟨_, Lib.hid rfl⟩
      clear la ca0 fa0 ca1 fa1 ca2 fa2 ca3 fa3 ca4 fa4 ca5 fa5 lb cb fb lc cc fc
      have AZ2 : Hid (ABC w #[.int .i64 0, .int .i64 0, .int .i64 0, .string ⟨#[]⟩, .bool false, .slice none 0 0] 33 t.pos 3 wz) := by rw [HZ.out]; exact AZ
      rw [← HZ.out]
      clear HZ AZ
      obtain ⟨la, ca0, fa0, ca1, fa1, ca2, fa2, ca3, fa3, ca4, fa4, ca5, fa5⟩ := cells6 AZ2.out.a
      obtain ⟨lb, cb, fb⟩ := cells1 AZ2.out.b
      obtain ⟨lc, cc, fc⟩ := cells1 AZ2.out.c
      exact ⟨.tuple #[.agg #[.int .i64 0, .int .i64 0, .int .i64 0, .string ⟨#[]⟩, .bool false, .slice none 0 0], .int .i64 t.pos, .int .i64 3], by simp [results, Tryz.results32, go_sem, *], AZ2.out.below, .inr ⟨k1, t, .ok HEV.out (ev_ifn (fun h => by have := congrArg List.length h; rw [Pa.rest_len HTK.out] at this; simp at this; omega) (.const _)), by omega, HT.out, rfl⟩⟩
  · have A7 := Lib.hid (A6.out.keep hg_ (fun q h => by injection h; omega))
    have hz7 := hg_.size
    clear A6 hg_
    obtain ⟨la, ca0, fa0, ca1, fa1, ca2, fa2, ca3, fa3, ca4, fa4, ca5, fa5⟩ := cells6 A7.out.a
    obtain ⟨lb, cb, fb⟩ := cells1 A7.out.b
    obtain ⟨lc, cc, fc⟩ := cells1 A7.out.c
    go_wp2_with fail
    refine leaves_cons (f := 69) (args := #[.pointer (some ⟨w.heap.size, 0, none⟩), .pointer (some ⟨w.heap.size + 1, 0, none⟩), .pointer (some ⟨w.heap.size + 2, 0, none⟩)]) (by simp) (by simp [go_sem]) ?_
    refine (catchE_fail (w.heap.size) (w.heap.size + 1) (w.heap.size + 2) (.int .i64 0) (.int .i64 0) (.int .i64 0) (.string ⟨#[]⟩) (.bool false) (.slice none 0 0) 0 0 t.pos [] w7 ca0 fa0 ca1 fa1 ca2 fa2 ca3 fa3 ca4 fa4 ca5 fa5 cb fb cc fc (by omega) (by omega) (by omega)).mono ?_
    rintro e9 u9 w9 ⟨rfl, rfl, rfl⟩
    have AZ := Lib.hid ((((A7.out.setA (set6_gr w7 w.heap.size (.int .i64 0) (.int .i64 0) (.int .i64 0) (.string ⟨#[]⟩) (.bool false) (.slice none 0 0)) (set6_blk (.int .i64 0) (.int .i64 0) (.int .i64 0) (.string ⟨#[]⟩) (.bool false) (.slice none 0 0) A7.out.a)).setB t.pos).setC 3).keep (gr_below (below_box _ (.cells #[.int .i64 0, .int .i64 0, .int .i64 0, .string ⟨#[]⟩, .bool false, .slice none 0 0] 33)) none) (fun _ h => by cases h))
    obtain ⟨wz, HZ⟩ : ∃ q, Hid (q = ((((((((w7.setCell ⟨w.heap.size, 0, none⟩ (.int .i64 0)).setCell ⟨w.heap.size, 1, none⟩ (.int .i64 0)).setCell ⟨w.heap.size, 2, none⟩ (.int .i64 0)).setCell ⟨w.heap.size, 3, none⟩ (.string ⟨#[]⟩)).setCell ⟨w.heap.size, 4, none⟩ (.bool false)).setCell ⟨w.heap.size, 5, none⟩ (.slice none 0 0)).setCell ⟨w.heap.size + 1, 0, none⟩ (.int .i64 t.pos)).setCell ⟨w.heap.size + 2, 0, none⟩ (.int .i64 3)).alloc (.cells #[.int .i64 0, .int .i64 0, .int .i64 0, .string ⟨#[]⟩, .bool false, .slice none 0 0] 33)) := ⟨_, Lib.hid rfl⟩
    clear la ca0 fa0 ca1 fa1 ca2 fa2 ca3 fa3 ca4 fa4 ca5 fa5 lb cb fb lc cc fc
    have AZ2 : Hid (ABC w #[.int .i64 0, .int .i64 0, .int .i64 0, .string ⟨#[]⟩, .bool false, .slice none 0 0] 33 t.pos 3 wz) := by rw [HZ.out]; exact AZ
    rw [← HZ.out]
    clear HZ AZ
    obtain ⟨la, ca0, fa0, ca1, fa1, ca2, fa2, ca3, fa3, ca4, fa4, ca5, fa5⟩ := cells6 AZ2.out.a
    obtain ⟨lb, cb, fb⟩ := cells1 AZ2.out.b
    obtain ⟨lc, cc, fc⟩ := cells1 AZ2.out.c
    exact ⟨.tuple #[.agg #[.int .i64 0, .int .i64 0, .int .i64 0, .string ⟨#[]⟩, .bool false, .slice none 0 0], .int .i64 t.pos, .int .i64 3], by simp [results, Tryz.results32, go_sem, *], AZ2.out.below, .inr ⟨k1, t, .bad hev_, by omega, ht_, rfl⟩⟩
end Go.Proofs.YtdckddkalgnlpaaGreatDoor
