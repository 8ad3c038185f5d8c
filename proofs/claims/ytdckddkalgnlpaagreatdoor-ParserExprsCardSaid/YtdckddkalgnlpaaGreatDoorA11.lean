/-
  Several texts in one: PbReg, PbCx.
-/
import Derived.Deep.RegionHeld3
import Derived.Test.YtdckddkalgnlpaaGreatDoorA10
namespace Go.Proofs.YtdckddkalgnlpaaGreatDoor
section
variable {P : Program} {ops : Array Oper} {Q : Exit → Act → World → Prop} {md : Region.Mode} {S : World → Prop} {fuel : Nat} {listed : Array Bool} {a : Act} {w : World} {x1 : Op} {x2 : TypeId} {x3 : String} {x4 : Array Edge} {x5 : Option (Nat × Bool)} {y1 : Op} {y2 : TypeId} {y3 : String} {y4 : Array Edge} {y5 : Option (Nat × Bool)}
theorem rT (i : Nat) (d : Option Nat) {v : Value} (h : wpAnyH P md ops Q S fuel (listed.setIfInBounds i true) (a.put d v) w)
 (hi : ops[i]? = some ⟨d, x1, x2, x3, x4, x5⟩ := by rfl) (hw : Region.wanted ⟨d, x1, x2, x3, x4, x5⟩ (yielded ops a.tmps) = true := by rfl)
 (hv : ∀ w, S w → (execOp a.eval ⟨d, x1, x2, x3, x4, x5⟩).run P w = .ok (.value v) w := by intro w hSw; (try dsimp only at hSw); go_simp; (try with_reducible rfl))
 (hs : Region.noSelect ops = true := by kernel_rfl) (hf : Region.free md ops listed i = true := by kernel_rfl) (hr : (Region.ready md ops listed).contains i = true := by kernel_rfl)
 (hQ : ∀ c a w, Q (.panic c) (a.put d v) w → Q (.panic c) a w := by exact fun _ _ _ h => h) (hS : S w := by first | trivial | assumption) : wpAnyH P md ops Q S (fuel + 1) listed a w :=
 wpAnyH_take hi hs hf hr hQ (Or.inl ⟨hw, hv⟩) hS h
theorem rK (i : Nat) (d : Option Nat) (h : wpAnyH P md ops Q S fuel (listed.setIfInBounds i true) (a.put d undef) w)
 (hi : ops[i]? = some ⟨d, x1, x2, x3, x4, x5⟩ := by rfl) (hw : Region.wanted ⟨d, x1, x2, x3, x4, x5⟩ (yielded ops a.tmps) = false := by rfl)
 (hs : Region.noSelect ops = true := by kernel_rfl) (hf : Region.free md ops listed i = true := by kernel_rfl) (hr : (Region.ready md ops listed).contains i = true := by kernel_rfl)
 (hQ : ∀ c a w, Q (.panic c) (a.put d undef) w → Q (.panic c) a w := by exact fun _ _ _ h => h) (hS : S w := by first | trivial | assumption) : wpAnyH P md ops Q S (fuel + 1) listed a w :=
 wpAnyH_take (v := undef) hi hs hf hr hQ (Or.inr ⟨hw, rfl⟩) hS h
theorem rR1 (i : Nat) (d : Option Nat)
 (h : ∀ K' : Act → World → Prop, Shut (∀ a w, S w → (S w → wpAnyH P md ops Q S fuel (listed.setIfInBounds i true) a w) → K' a w) → if Region.wanted ⟨d, x1, x2, x3, x4, x5⟩ (yielded ops a.tmps) = true then Oper.wp P ⟨d, x1, x2, x3, x4, x5⟩ a w K' Q else K' (a.put d undef) w)
 (hr : Region.ready md ops listed = [i] := by kernel_rfl) (hi : ops[i]? = some ⟨d, x1, x2, x3, x4, x5⟩ := by rfl) : wpAnyH P md ops Q S (fuel + 1) listed a w :=
 wpAnyH_ready hr (by simp) (AllReadyH.cons hi h AllReadyH.nil)
theorem rR2 (i : Nat) (d : Option Nat) (j : Nat) (d' : Option Nat)
 (h : ∀ K' : Act → World → Prop, Shut (∀ a w, S w → (S w → wpAnyH P md ops Q S fuel (listed.setIfInBounds i true) a w) → K' a w) → if Region.wanted ⟨d, x1, x2, x3, x4, x5⟩ (yielded ops a.tmps) = true then Oper.wp P ⟨d, x1, x2, x3, x4, x5⟩ a w K' Q else K' (a.put d undef) w)
 (h' : ∀ K' : Act → World → Prop, Shut (∀ a w, S w → (S w → wpAnyH P md ops Q S fuel (listed.setIfInBounds j true) a w) → K' a w) → if Region.wanted ⟨d', y1, y2, y3, y4, y5⟩ (yielded ops a.tmps) = true then Oper.wp P ⟨d', y1, y2, y3, y4, y5⟩ a w K' Q else K' (a.put d' undef) w)
 (hr : Region.ready md ops listed = [i, j] := by kernel_rfl) (hi : ops[i]? = some ⟨d, x1, x2, x3, x4, x5⟩ := by rfl) (hj : ops[j]? = some ⟨d', y1, y2, y3, y4, y5⟩ := by rfl) : wpAnyH P md ops Q S (fuel + 1) listed a w :=
 wpAnyH_ready hr (by simp) (AllReadyH.cons hi h (AllReadyH.cons hj h' AllReadyH.nil))
theorem q0 {α : Type} (l : List α) (i : Nat) (x : α) : l.toArray.setIfInBounds i x = (l.set i x).toArray := List.setIfInBounds_toArray ..
theorem q1 {α : Type} (x y : α) (l : List α) : (x :: l).set 0 y = y :: l := List.set_cons_zero ..
theorem q2 {α : Type} (x y : α) (l : List α) (i : Nat) : (x :: l).set (i + 1) y = x :: l.set i y := List.set_cons_succ ..
end
end Go.Proofs.YtdckddkalgnlpaaGreatDoor
namespace Go.Proofs.YtdckddkalgnlpaaGreatDoor
open Go.RowKit Go.Maps Pw
def rdS (W : World) (v : Value) (s : Tr.S) : Prop := ∃ x y z, v = stmtV s x y z ∧ ReadST W (s, x, y, z)
def rdC (W : World) (v : Value) (c : Tr.C) : Prop := ∃ x y, v = .agg #[.string c.name, .bool c.actor, x, y] ∧ ReadC W c x y
theorem bd_stmt {k : Nat} {nm : ByteArray} {x : List Tr.E} {y z : List Tr.S} (h : k ≤ 9) (hn : nm.size ≤ maxLen) : BdS (.mk k nm x y z) := ⟨i64_small (n := (k : Int)) (by omega) (by omega), hn⟩
theorem inf_of {i : Option TypeInfo} {z : Value} {k b : Nat} (h : i.map (fun i => (i.zero, i.size, i.bytes)) = some (some z, k, b)) (hb : b ≤ 1000) (hz : z.cells.size = k) : ∃ (j : TypeInfo) (y : Value), i = some j ∧ j.zero = some y ∧ j.size = k ∧ j.bytes ≤ 1000 ∧ y.cells.size = k := by
 obtain ⟨j, hi, h2⟩ := Option.map_eq_some_iff.1 h
 simp only [Prod.mk.injEq] at h2
 exact ⟨j, z, hi, h2.1, h2.2.1, by omega, hz⟩
theorem tkE : TK eCells 6 33 31 ReadET SlE (Prod.fst : ET → Tr.E) := ⟨eCells_len, readET_mono, fun h hx => slE_own h hx, fun h => fun u hu => eCells_one (l := [_]) (fun y hy => by rw [List.mem_singleton.1 hy]; exact h) _ (List.mem_singleton.2 rfl) u hu, Tryz.underlying31, inf_of exprInfo (by decide) rfl, by decide, fun _ _ _ _ h hx => hx.inc h⟩
theorem tkS : TK sCells 5 94 62 ReadST SlS (Prod.fst : ST → Tr.S) := ⟨sCells_len, readST_mono, fun h hx => slS_own h hx, fun h => fun u hu => sCells_one (l := [_]) (fun y hy => by rw [List.mem_singleton.1 hy]; exact h) _ (List.mem_singleton.2 rfl) u hu, Tryz.underlying62, inf_of stmtInfo (by decide) rfl, by decide, fun _ _ _ _ h hx => hx.inc h⟩
theorem tkM : TK mCells 3 64 47 (fun U (x : MT) => ReadM U x.1 x.2.1 x.2.2) SlM (Prod.fst : MT → Tr.M) := ⟨mCells_len, readM_mono, fun h hx => slM_own h hx, fun h => fun u hu => mCells_one (l := [_]) (fun y hy => by rw [List.mem_singleton.1 hy]; exact h) _ (List.mem_singleton.2 rfl) u hu, Tryz.underlying47, inf_of methodInfo (by decide) rfl, by decide, fun _ _ _ _ h hx => hx.inc h⟩
theorem tkC : TK cCells 4 49 23 (fun U (x : CT) => ReadC U x.1 x.2.1 x.2.2) SlC (Prod.fst : CT → Tr.C) := ⟨cCells_len, readC_mono, fun h hx => slC_own h hx, fun h => fun u hu => cCells_one (l := [_]) (fun y hy => by rw [List.mem_singleton.1 hy]; exact h) _ (List.mem_singleton.2 rfl) u hu, Tryz.underlying23, inf_of classInfo (by decide) rfl, by decide, fun _ _ _ _ h hx => hx.inc h⟩
theorem tkN : TK nCells 1 9 46 ReadNm SlStr (id : ByteArray → ByteArray) := ⟨nCells_len, readN_mono, fun h hx => by rw [List.map_id]; exact slStr_own h hx, fun h => fun u hu => nCells_one [_] _ (List.mem_singleton.2 rfl) u hu, Tryz.underlying46, inf_of strInfo (by decide) rfl, by decide, fun _ _ _ _ h hx => hx.inc h⟩
def rdL (B : Nat) (W : World) (v : Value) (l : List Tr.E) : Prop := ∃ tr : List ET, l = tr.map Prod.fst ∧ tr.length ≤ 1000000 ∧ RowOk eCells 6 33 ReadET B [] W v tr
def rdN (B : Nat) (W : World) (v : Value) (l : List ByteArray) : Prop := l.length ≤ 1000000 ∧ RowOk nCells 1 9 ReadNm B [] W v l
def Pa.opt {β : Type} (s : Pa.Bytes) (p q : Pa.Toks → Pa.R β) (ts : Pa.Toks) : Pa.R β := if Pa.is s ts then p ts.tail else q ts
theorem Pa.R.eta {β : Type} (x : Pa.R β) : x = x.bind fun a r => .ok a r := by cases x <;> rfl
def PR {α : Type} (L : List Lex.Tok) (n tbk tc P k : Nat) (p : Nat → Pa.Toks → Pa.R α) (rd : World → Value → α → Prop) (w : World) (e : Ending) (w' : World) : Prop :=
 w.grownBy w' (some P) ∧
 ((∃ a v k', Pa.Ev (fun f => p f (Pa.rest L n k)) (.ok a (Pa.rest L n k')) ∧ e = .returned v ∧ rd w' v a ∧ k < k' ∧ PS L n tbk tc P k' w') ∨
  (∃ k' t, Pa.Ev (fun f => p f (Pa.rest L n k)) (.bad (Pa.rest L n k')) ∧ e = .panicked (failV t.pos) ∧ k ≤ k' ∧ k' ≤ n ∧ L[k']? = some t))
def Bd {β : Type} (L : List Lex.Tok) (n P k0 : Nat) (w : World) (p0 : Nat → Pa.R β) (t : Lex.Tok) (W : World) : Prop := w.grownBy W (some P) ∧ ∃ k', Pa.Ev p0 (.bad (Pa.rest L n k')) ∧ k0 ≤ k' ∧ k' ≤ n ∧ L[k']? = some t
section
variable {α : Type} {L : List Lex.Tok} {n tbk tc P k : Nat} {w W : World} {t : Lex.Tok} {p : Nat → Pa.Toks → Pa.R α}
theorem Bd.pr {rd : World → Value → α → Prop} (h : Bd L n P k w (fun f => p f (Pa.rest L n k)) t W) : PR L n tbk tc P k p rd w (.panicked (failV t.pos)) W := by
 obtain ⟨hg, k', he, h1, h2, h3⟩ := h
 exact ⟨hg, .inr ⟨k', t, he, rfl, h1, h2, h3⟩⟩
theorem Bd.pq {rd : World → Value → α → Prop} (h : Bd L n P k w (fun f => p f (Pa.rest L n k)) t W) : PQ L n tbk tc P k p rd w (.panicked (failV t.pos)) W := by
 obtain ⟨hg, k', he, h1, h2, h3⟩ := h
 exact ⟨hg, .inr ⟨k', t, he, rfl, h1, h2, h3⟩⟩
end
theorem PS.kept {L : List Lex.Tok} {n tbk tc P k : Nat} {w : World} (h1 : P < w.heap.size) (h2 : tbk < w.heap.size) {U U' : World} {row : Option Nat} (hg : U.grownBy U' row) (hr : ∀ q, row = some q → w.heap.size ≤ q) (h : PS L n tbk tc P k U) : PS L n tbk tc P k U' :=
 h.keep hg (fun e => by have := hr P e.symm; omega) (fun e => by have := hr tbk e.symm; omega)
structure Cx {β : Type} (L : List Lex.Tok) (n tbk tc P k0 : Nat) (w : World) (p0 : Nat → Pa.R β) (k : Nat) (bs : List Bk) (os : List Im) (G : Nat → Pa.Toks → Pa.R β) (W : World) : Prop where
 m : Mx w P (PS L n tbk tc P k) bs os W
 kk : k0 ≤ k
 tw : tbk < w.heap.size
 hL : Pa.TkL L n
 ev : ∀ x, Pa.Ev (fun f => G f (Pa.rest L n k)) x → Pa.Ev p0 x
section
variable {β : Type} {L : List Lex.Tok} {n tbk tc P k0 k : Nat} {w W W' : World} {p0 : Nat → Pa.R β} {bs : List Bk} {os : List Im} {G G' : Nat → Pa.Toks → Pa.R β}
theorem Cx.start (hL : Pa.TkL L n) (hp : PS L n tbk tc P k w) (p : Nat → Pa.Toks → Pa.R β) : Cx L n tbk tc P k w (fun f => p f (Pa.rest L n k)) k [] [] p w :=
 ⟨⟨hp, fun hg hr h => PS.kept hp.plt hp.lt hg hr h, gr_refl _ _, hp.plt, (fun _ h => by cases h), List.nodup_nil, (fun _ h => by cases h), List.Pairwise.nil⟩, Nat.le_refl _, hp.lt, hL, fun _ h => h⟩
theorem Cx.ps (h : Cx L n tbk tc P k0 w p0 k bs os G W) : PS L n tbk tc P k W := h.m.ps
theorem Cx.le (h : Cx L n tbk tc P k0 w p0 k bs os G W) : k ≤ n := h.m.ps.le
theorem Cx.mm {bs' : List Bk} {os' : List Im} (h : Cx L n tbk tc P k0 w p0 k bs os G W) (hm : Mx w P (PS L n tbk tc P k) bs' os' W') : Cx L n tbk tc P k0 w p0 k bs' os' G W' := ⟨hm, h.kk, h.tw, h.hL, h.ev⟩
theorem Cx.spec (h : Cx L n tbk tc P k0 w p0 k bs os G W) (e : ∀ f ts, G (f + 1) ts = G' f ts) : Cx L n tbk tc P k0 w p0 k bs os G' W := ⟨h.m, h.kk, h.tw, h.hL, fun x hx => h.ev x (.step (fun f => e f _) hx)⟩
theorem Cx.spc (h : Cx L n tbk tc P k0 w p0 k bs os G W) (e : ∀ f ts, G f ts = G' f ts) : Cx L n tbk tc P k0 w p0 k bs os G' W := ⟨h.m, h.kk, h.tw, h.hL, fun x hx => h.ev x (.cong (fun f => e f _) hx)⟩
theorem Cx.optN {s : Pa.Bytes} {p q : Nat → Pa.Toks → Pa.R β} (h : Cx L n tbk tc P k0 w p0 k bs os (fun f ts => Pa.opt s (p f) (q f) ts) W) (hi : Pa.is s (Pa.rest L n k) = false) : Cx L n tbk tc P k0 w p0 k bs os q W :=
 ⟨h.m, h.kk, h.tw, h.hL, fun x hx => h.ev x (.cong (fun f => by unfold Pa.opt; rw [hi, if_neg (by decide)]) hx)⟩
theorem Cx.keep (h : Cx L n tbk tc P k0 w p0 k bs os G W) (hb : Below W.heap.size W W') : Cx L n tbk tc P k0 w p0 k bs os G W' := h.mm (h.m.below hb)
theorem Cx.par (h : Cx L n tbk tc P k0 w p0 k bs os G W) {k' : Nat} (hg : W.grownBy W' (some P)) (hp : PS L n tbk tc P k' W') (hk : k ≤ k') (he : ∀ x, Pa.Ev (fun f => G' f (Pa.rest L n k')) x → Pa.Ev (fun f => G f (Pa.rest L n k)) x) : Cx L n tbk tc P k0 w p0 k' bs os G' W' :=
 ⟨h.m.par hg (fun hg hr h2 => PS.kept h.m.pw h.tw hg hr h2) hp, Nat.le_trans h.kk hk, h.tw, h.hL, fun x hx => h.ev x (he x hx)⟩
theorem Cx.bad (h : Cx L n tbk tc P k0 w p0 k bs os G W) {k' : Nat} {t : Lex.Tok} (hg : W.grownBy W' (some P)) (hk : k ≤ k') (hn : k' ≤ n) (ht : L[k']? = some t) (he : Pa.Ev (fun f => G f (Pa.rest L n k)) (.bad (Pa.rest L n k'))) : Bd L n P k0 w p0 t W' :=
 ⟨gr_trans h.m.gr hg, k', h.ev _ he, Nat.le_trans h.kk hk, hn, ht⟩
theorem Cx.boxE (h : Cx L n tbk tc P k0 w p0 k bs os G W) (cs : Array Value) (t : TypeId) : ∃ X W', Hid (X = W.heap.size) ∧ Hid (W' = W.alloc (.cells cs t)) ∧ W.heap.size ≤ X ∧ Hid (Cx L n tbk tc P k0 w p0 k ((X, cs, t) :: bs) os G W') := ⟨_, _, Lib.hid rfl, Lib.hid rfl, Nat.le_refl _, Lib.hid (h.mm (h.m.box rfl cs t))⟩
theorem Cx.boxR (h : Cx L n tbk tc P k0 w p0 k [] [] G w) (cs : Array Value) (t : TypeId) : ∃ W', Hid (W' = w.alloc (.cells cs t)) ∧ Hid (Cx L n tbk tc P k0 w p0 k [(w.heap.size, cs, t)] [] G W') := ⟨_, Lib.hid rfl, Lib.hid (h.mm (h.m.box rfl cs t))⟩
theorem Cx.drewE (h : Cx L n tbk tc P k0 w p0 k bs os G W) : ∃ W', Hid (W' = W.drew) ∧ Hid (Cx L n tbk tc P k0 w p0 k bs os G W') := ⟨_, Lib.hid rfl, Lib.hid (h.mm (h.m.same (gr_drew (gr_refl _ _))))⟩
theorem Cx.take (s : ByteArray) (hs : s.data.toList ≠ []) {p q : Nat → Pa.Toks → Pa.R β} (h : Cx L n tbk tc P k0 w p0 k bs os (fun f ts => Pa.opt s.data.toList (p f) (q f) ts) W) :
 Calls Tryz.prog 108 #[.pointer (some ⟨P, 0, none⟩), .string s] W fun e W' => (e = .returned (.bool true) ∧ k < n ∧ Hid (Cx L n tbk tc P k0 w p0 (k + 1) bs os p W')) ∨ (e = .returned (.bool false) ∧ Hid (Cx L n tbk tc P k0 w p0 k bs os q W')) := by
 cases hi : Pa.is s.data.toList (Pa.rest L n k) with
 | true =>
   have hlt := Pa.is_lt h.le hi
   exact (take_yes h.ps h.hL s hs hi).mono fun _ _ ⟨a, b, c⟩ => .inl ⟨a, hlt, Lib.hid (h.par b c (Nat.le_succ k) fun x hx => by
    refine .cong (fun f => ?_) hx
    show Pa.opt _ _ _ _ = _
    unfold Pa.opt
    rw [hi, if_pos rfl, Pa.rest_tail h.hL hlt])⟩
 | false => exact (take_no h.ps h.hL s hs hi).mono fun _ _ ⟨a, b⟩ => .inr ⟨a, Lib.hid ((h.optN hi).keep b)⟩
theorem Cx.is (s : ByteArray) (hs : s.data.toList ≠ []) (h : Cx L n tbk tc P k0 w p0 k bs os G W) :
 Calls Tryz.prog 59 #[.pointer (some ⟨P, 0, none⟩), .string s] W fun e W' => (e = .returned (.bool true) ∧ Hid (Pa.is s.data.toList (Pa.rest L n k) = true) ∧ Hid (Cx L n tbk tc P k0 w p0 k bs os G W')) ∨ (e = .returned (.bool false) ∧ Hid (Pa.is s.data.toList (Pa.rest L n k) = false) ∧ Hid (Cx L n tbk tc P k0 w p0 k bs os G W')) := by
 refine (is_any h.ps h.hL s hs).mono fun _ _ ⟨a, b⟩ => ?_
 cases hi : Pa.is s.data.toList (Pa.rest L n k) with
 | true => exact .inl ⟨hi ▸ a, Lib.hid rfl, Lib.hid (h.keep b)⟩
 | false => exact .inr ⟨hi ▸ a, Lib.hid rfl, Lib.hid (h.keep b)⟩
theorem Cx.exp (s : ByteArray) (hs : s.data.toList ≠ []) {q : Nat → Pa.Toks → Pa.R β} (h : Cx L n tbk tc P k0 w p0 k bs os (fun f ts => (Pa.expect s.data.toList ts).bind fun _ r => q f r) W) :
 Calls Tryz.prog 107 #[.pointer (some ⟨P, 0, none⟩), .slice (some ⟨W.heap.size, 0, none⟩) 1 1] (W.alloc (.cells #[.string s] 9)) fun e W' => (e = .returned (.tuple #[]) ∧ k < n ∧ Hid (Cx L n tbk tc P k0 w p0 (k + 1) bs os q W')) ∨ ∃ t, e = .panicked (failV t.pos) ∧ Hid (Bd L n P k0 w p0 t W') := by
 have hb := below_box W (.cells #[.string s] 9)
 have hc := cell_of_blkP (new_at (w := W) (o := .cells #[.string s] 9) rfl) (j := 0) (u := .string s) rfl
 have h1 := h.keep hb
 cases hi : Pa.is s.data.toList (Pa.rest L n k) with
 | true =>
   have hlt := Pa.is_lt h.le hi
   exact (expect_yes h1.ps h.hL s hs hi _ hc).mono fun _ _ ⟨a, b, c⟩ => .inl ⟨a, hlt, Lib.hid (h1.par b c (Nat.le_succ k) fun x hx => .exp_yes h.hL h.le hi hx)⟩
 | false =>
   obtain ⟨t, ht⟩ := h.hL.get h.le
   exact (expect_no h1.ps h.hL s hs hi _ hc ht).mono fun _ _ ⟨a, b⟩ => .inr ⟨t, a, Lib.hid (h1.bad (gr_below b _) (Nat.le_refl _) h.le ht (.exp_no h.hL h.le hi))⟩
theorem Cx.word {F : Nat} {args : Array Value} (K : Nat) (hK : 0 < K) {q : Nat → ByteArray → Pa.Toks → Pa.R β} (h : Cx L n tbk tc P k0 w p0 k bs os (fun f ts => (Pa.word K ts).bind fun a r => q f a r) W)
 (hy : ∀ {t : Lex.Tok}, L[k]? = some t → k < n → t.kind = K → Calls Tryz.prog F args W fun e w' => e = .returned (.string ⟨t.text.toArray⟩) ∧ W.grownBy w' (some P) ∧ PS L n tbk tc P (k + 1) w')
 (hn : ∀ {t : Lex.Tok}, L[k]? = some t → t.kind ≠ K → Calls Tryz.prog F args W fun e w' => e = .panicked (failV t.pos) ∧ Below W.heap.size W w') :
 Calls Tryz.prog F args W fun e W' => (∃ s : ByteArray, e = .returned (.string s) ∧ k < n ∧ s.size ≤ maxLen ∧ Hid (Cx L n tbk tc P k0 w p0 (k + 1) bs os (fun f ts => q f s ts) W')) ∨ ∃ t, e = .panicked (failV t.pos) ∧ Hid (Bd L n P k0 w p0 t W') := by
 obtain ⟨t, ht⟩ := h.hL.get h.le
 by_cases hk : t.kind = K
 ·have hlt := kind_lt h.hL h.le ht (by omega)
  exact (hy ht hlt hk).mono fun _ _ ⟨a, b, c⟩ => .inl ⟨_, a, hlt, tok_size h.hL ht, Lib.hid (h.par b c (Nat.le_succ k) fun x hx => .word_yes hlt ht hk hx)⟩
 ·exact (hn ht hk).mono fun _ _ ⟨a, b⟩ => .inr ⟨t, a, Lib.hid (h.bad (gr_below b _) (Nat.le_refl _) h.le ht (.word_no h.hL h.le ht hk))⟩
theorem Cx.name {q : Nat → ByteArray → Pa.Toks → Pa.R β} (h : Cx L n tbk tc P k0 w p0 k bs os (fun f ts => (Pa.word 2 ts).bind fun a r => q f a r) W) :
 Calls Tryz.prog 109 #[.pointer (some ⟨P, 0, none⟩)] W fun e W' => (∃ s : ByteArray, e = .returned (.string s) ∧ k < n ∧ s.size ≤ maxLen ∧ Hid (Cx L n tbk tc P k0 w p0 (k + 1) bs os (fun f ts => q f s ts) W')) ∨ ∃ t, e = .panicked (failV t.pos) ∧ Hid (Bd L n P k0 w p0 t W') :=
 h.word 2 (by decide) (fun ht hlt hk => name_yes h.ps h.hL ht hlt hk) (fun ht hk => name_no h.ps h.hL ht hk)
theorem Cx.wrd {q : Nat → ByteArray → Pa.Toks → Pa.R β} (h : Cx L n tbk tc P k0 w p0 k bs os (fun f ts => (Pa.word 3 ts).bind fun a r => q f a r) W) :
 Calls Tryz.prog 106 #[.pointer (some ⟨P, 0, none⟩), .int .i64 3] W fun e W' => (∃ s : ByteArray, e = .returned (.string s) ∧ k < n ∧ s.size ≤ maxLen ∧ Hid (Cx L n tbk tc P k0 w p0 (k + 1) bs os (fun f ts => q f s ts) W')) ∨ ∃ t, e = .panicked (failV t.pos) ∧ Hid (Bd L n P k0 w p0 t W') :=
 h.word 3 (by decide) (fun {t} ht hlt hk => by have := word_yes h.ps h.hL ht hlt; rw [hk] at this; exact this) (fun ht hk => word_no h.ps h.hL ht 3 hk)
theorem Cx.at_ (h : Cx L n tbk tc P k0 w p0 k bs os G W) (e : ∀ f, G (f + 1) (Pa.rest L n k) = G' f (Pa.rest L n k)) : Cx L n tbk tc P k0 w p0 k bs os G' W := ⟨h.m, h.kk, h.tw, h.hL, fun x hx => h.ev x (.step e hx)⟩
theorem Cx.at0 (h : Cx L n tbk tc P k0 w p0 k bs os G W) (e : ∀ f, G f (Pa.rest L n k) = G' f (Pa.rest L n k)) : Cx L n tbk tc P k0 w p0 k bs os G' W := ⟨h.m, h.kk, h.tw, h.hL, fun x hx => h.ev x (.cong e hx)⟩
theorem Cx.evs (h : Cx L n tbk tc P k0 w p0 k bs os G W) (e : ∀ x, Pa.Ev (fun f => G' f (Pa.rest L n k)) x → Pa.Ev (fun f => G f (Pa.rest L n k)) x) : Cx L n tbk tc P k0 w p0 k bs os G' W := ⟨h.m, h.kk, h.tw, h.hL, fun x hx => h.ev x (e x hx)⟩
theorem Cx.next (h : Cx L n tbk tc P k0 w p0 k bs os G W) {t : Lex.Tok} (ht : L[k]? = some t) :
 Calls Tryz.prog 57 #[.pointer (some ⟨P, 0, none⟩)] W fun e W' => e = .returned (.agg #[.int .i64 t.kind, .string ⟨t.text.toArray⟩, .int .i64 t.val, .int .i64 t.pos]) ∧ Hid (Cx L n tbk tc P k0 w p0 k bs os G W') := (next_any h.ps h.hL ht).mono fun _ _ ⟨a, b⟩ => ⟨a, Lib.hid (h.keep b)⟩
theorem Cx.inc (h : Cx L n tbk tc P k0 w p0 k bs os G W) (hlt : k < n) (he : ∀ x, Pa.Ev (fun f => G' f (Pa.rest L n (k + 1))) x → Pa.Ev (fun f => G f (Pa.rest L n k)) x) : Cx L n tbk tc P k0 w p0 (k + 1) bs os G' (W.setCell ⟨P, 1, none⟩ (.int .i64 (↑k + 1))) :=
 h.par (gr_set _ _ _ _) (by have h2 := h.ps.set (k' := k + 1) hlt; rw [Int.natCast_succ] at h2; exact h2) (Nat.le_succ k) he
theorem Cx.foc {α : Type} {p : Nat → Pa.Toks → Pa.R α} {g : Nat → α → Pa.Toks → Pa.R β} (h : Cx L n tbk tc P k0 w p0 k bs os (fun f ts => (p f ts).bind fun a r => g f a r) W) : Cx L n tbk tc P k0 w (fun f => p f (Pa.rest L n k)) k bs os p W ∧ ∀ x, Pa.Ev (fun f => (p f (Pa.rest L n k)).bind fun a r => g f a r) x → Pa.Ev p0 x := ⟨⟨h.m, h.kk, h.tw, h.hL, fun _ hx => hx⟩, h.ev⟩
theorem Cx.unf {α : Type} {p : Nat → Pa.R α} {g : Nat → α → Pa.Toks → Pa.R β} {a : α} (h : Cx L n tbk tc P k0 w p k bs os (fun _ ts => .ok a ts) W) (hF : ∀ x, Pa.Ev (fun f => (p f).bind fun a r => g f a r) x → Pa.Ev p0 x) : Cx L n tbk tc P k0 w p0 k bs os (fun f ts => g f a ts) W := ⟨h.m, h.kk, h.tw, h.hL, fun x hx => hF x (.ok (h.ev _ (.const _)) hx)⟩
theorem Bd.up {α : Type} {p : Nat → Pa.R α} {g : Nat → α → Pa.Toks → Pa.R β} {t : Lex.Tok} (h : Bd L n P k0 w p t W) (hF : ∀ x, Pa.Ev (fun f => (p f).bind fun a r => g f a r) x → Pa.Ev p0 x) : Bd L n P k0 w p0 t W := by
 obtain ⟨hg, k', he, h1⟩ := h
 exact ⟨hg, k', hF _ (.bad he), h1⟩
theorem Cx.isV (s : ByteArray) (hs : s.data.toList ≠ []) {b : Bool} (hb : Pa.is s.data.toList (Pa.rest L n k) = b) (h : Cx L n tbk tc P k0 w p0 k bs os G W) :
 Calls Tryz.prog 59 #[.pointer (some ⟨P, 0, none⟩), .string s] W fun e W' => e = .returned (.bool b) ∧ Hid (Cx L n tbk tc P k0 w p0 k bs os G W') := (is_any h.ps h.hL s hs).mono fun _ _ ⟨a, c⟩ => ⟨hb ▸ a, Lib.hid (h.keep c)⟩
theorem Cx.join {B1 B2 : Nat} {r1 r2 rd : World → Prop} (h : Cx L n tbk tc P k0 w p0 k bs (im B1 r1 :: im B2 r2 :: os) G W) (hm : Mn rd) (hr : ∀ U, r1 U → r2 U → rd U) : Cx L n tbk tc P k0 w p0 k bs (im B2 rd :: os) G W := h.mm (h.m.join hm hr)
theorem Cx.strs {B : Nat} {v : Value} {tr : List ByteArray} (h : Cx L n tbk tc P k0 w p0 k bs [imR tkN B v tr] G W) : ∃ bf : List Bk, Cx L n tbk tc P k0 w p0 k (bs ++ bf) [] G W ∧ ∀ U : World, (∀ (j : Nat) {X : Nat} {cs : Array Value} {t : TypeId}, bf[j]? = some (X, cs, t) → U.heap[X]? = some (.cells cs t (0, 0))) → SlStr U v tr := by
 have hr : RowOk nCells 1 9 ReadNm B (bs.map Prod.fst) W v tr := h.m.o 0 rfl
 have hB : w.heap.size ≤ B := (h.m.ro _ (List.mem_cons_self ..)).1
 rcases hr.own.2 with hn | ⟨g, cap, cur, rfl, hb, hg, rest⟩
 ·refine ⟨[], by rw [List.append_nil]; exact h.mm h.m.ot, fun U _ => slStr_own (base := 0) ⟨hr.own.1, .inl hn⟩ hr.rd⟩
 ·refine ⟨[(g, cur, 9)], h.mm ⟨h.m.ps, h.m.pk, h.m.gr, h.m.pw, fun x hx => ?_, ?_, (fun _ h => by cases h), List.Pairwise.nil⟩, fun U hU => slStr_own (base := 0) ⟨hr.own.1, .inr ⟨g, cap, cur, rfl, Nat.zero_le _, hU 0 rfl, rest⟩⟩ hr.rd⟩
  ·rcases List.mem_append.1 hx with hx | hx
   ·exact h.m.bl x hx
   ·rw [List.mem_singleton.1 hx]
    exact ⟨hg, Nat.le_trans hB hb⟩
  ·rw [List.map_append, List.nodup_append]
   refine ⟨h.m.nd, by simp, fun a ha b hb2 => ?_⟩
   rw [List.map_singleton, List.mem_singleton] at hb2
   subst hb2
   intro e
   exact hr.nin a ha (by rw [e]; rfl)
theorem Cx.callR {α : Type} {F : Nat} {args : Array Value} {p : Nat → Pa.Toks → Pa.R α} {q : Nat → α → Pa.Toks → Pa.R β} {rd : World → Value → α → Prop} (h : Cx L n tbk tc P k0 w p0 k bs os (fun f ts => (p f ts).bind fun a r => q f a r) W) (hK : Calls Tryz.prog F args W (PR L n tbk tc P k p rd W)) :
 Calls Tryz.prog F args W fun e W' => (∃ a v k', e = .returned v ∧ rd W' v a ∧ k < k' ∧ k' ≤ n ∧ ∀ {o : Im}, It o → o.B = W.heap.size → o.r o.B [] W' → Cx L n tbk tc P k0 w p0 k' bs (o :: os) (fun f ts => q f a ts) W') ∨ ∃ t, e = .panicked (failV t.pos) ∧ Hid (Bd L n P k0 w p0 t W') := by
 refine hK.mono ?_
 rintro e W' ⟨hg, ⟨a, v, k', hev, he, hr, hlt, hp⟩ | ⟨k', t, hev, he, hle, hkn, ht⟩⟩
 ·have h1 := h.par (G' := fun f ts => q f a ts) hg hp (Nat.le_of_lt hlt) (fun x hx => .ok hev hx)
  exact .inl ⟨a, v, k', he, hr, hlt, hp.le, fun hI hB hr => h1.mm (h.m.call hg h1.m.pk hp hI hB hr)⟩
 ·exact .inr ⟨t, he, Lib.hid (h.bad hg hle hkn ht (.bad hev))⟩
theorem mn_E (x : ET) : Mn (fun U => ReadET U x) := fun _ _ h hx => readET_mono _ _ _ h hx
theorem mn_S (x : ST) : Mn (fun U => ReadST U x) := fun _ _ h hx => readST_mono _ _ _ h hx
theorem Cx.callE {F : Nat} {args : Array Value} {p : Nat → Pa.Toks → Pa.R Tr.E} {q : Nat → Tr.E → Pa.Toks → Pa.R β} (h : Cx L n tbk tc P k0 w p0 k bs os (fun f ts => (p f ts).bind fun a r => q f a r) W) (hK : Calls Tryz.prog F args W (PQ L n tbk tc P k p rdE W)) :
 Calls Tryz.prog F args W fun e W' => (∃ (x : Tr.E) (pa : Option Addr) (N c k' : Nat), e = .returned (.agg #[.int .i64 x.kind, .int .i64 x.op, .int .i64 x.int, .string x.name, .bool x.at_, .slice pa N c]) ∧ k < k' ∧ k' ≤ n ∧ Hid (Cx L n tbk tc P k0 w p0 k' bs (im W.heap.size (fun U => ReadET U (x, .slice pa N c)) :: os) (fun f ts => q f x ts) W')) ∨ ∃ t, e = .panicked (failV t.pos) ∧ Hid (Bd L n P k0 w p0 t W') := by
 refine (h.callR (rd := fun U => rdE (hide (upL W.heap.size []) U)) hK).mono ?_
 rintro e W' (⟨x, v, k', he, ⟨a, rfl, hbd, hsl⟩, hlt, hkn, hC⟩ | h2)
 ·obtain ⟨pa, ca, rfl, _⟩ := hsl.form
  exact .inl ⟨x, pa, _, ca, k', he, hlt, hkn, Lib.hid (hC (o := im W.heap.size (fun U => ReadET U (x, .slice pa _ ca))) (im_it (mn_E _)) rfl ⟨hbd, hsl⟩)⟩
 ·exact .inr h2
theorem Cx.callS {F : Nat} {args : Array Value} {p : Nat → Pa.Toks → Pa.R Tr.S} {q : Nat → Tr.S → Pa.Toks → Pa.R β} (h : Cx L n tbk tc P k0 w p0 k bs os (fun f ts => (p f ts).bind fun a r => q f a r) W) (hK : Calls Tryz.prog F args W (PQ L n tbk tc P k p rdS W)) :
 Calls Tryz.prog F args W fun e W' => (∃ (s : Tr.S) (px : Option Addr) (Nx cx : Nat) (py : Option Addr) (Ny cy : Nat) (pz : Option Addr) (Nz cz k' : Nat), e = .returned (.agg #[.int .i64 s.kind, .string s.name, .slice px Nx cx, .slice py Ny cy, .slice pz Nz cz]) ∧ k < k' ∧ k' ≤ n ∧ Hid (Cx L n tbk tc P k0 w p0 k' bs (im W.heap.size (fun U => ReadST U (s, .slice px Nx cx, .slice py Ny cy, .slice pz Nz cz)) :: os) (fun f ts => q f s ts) W')) ∨ ∃ t, e = .panicked (failV t.pos) ∧ Hid (Bd L n P k0 w p0 t W') := by
 refine (h.callR (rd := fun U => rdS (hide (upL W.heap.size []) U)) hK).mono ?_
 rintro e W' (⟨s, v, k', he, ⟨x, y, z, rfl, hh⟩, hlt, hkn, hC⟩ | h2)
 ·have hbd : BdS s := hh.1
  have hx : SlE (hide (upL W.heap.size []) W') x s.exprs := hh.2.1
  have hy : SlS (hide (upL W.heap.size []) W') y s.body := hh.2.2.1
  have hz : SlS (hide (upL W.heap.size []) W') z s.els := hh.2.2.2
  clear hh
  obtain ⟨px, cx, rfl, _⟩ := hx.form
  obtain ⟨py, cy, rfl, _⟩ := hy.form
  obtain ⟨pz, cz, rfl, _⟩ := hz.form
  exact .inl ⟨s, px, _, cx, py, _, cy, pz, _, cz, k', he, hlt, hkn, Lib.hid (hC (o := im W.heap.size (fun U => ReadST U (s, .slice px _ cx, .slice py _ cy, .slice pz _ cz))) (im_it (mn_S _)) rfl ⟨hbd, hx, hy, hz⟩)⟩
 ·exact .inr h2
theorem Cx.callB {F : Nat} {args : Array Value} {p : Nat → Pa.Toks → Pa.R (List Tr.S)} {q : Nat → List Tr.S → Pa.Toks → Pa.R β} (h : Cx L n tbk tc P k0 w p0 k bs os (fun f ts => (p f ts).bind fun a r => q f a r) W) (hK : Calls Tryz.prog F args W (PQ L n tbk tc P k p SlS W)) :
 Calls Tryz.prog F args W fun e W' => (∃ (l : List Tr.S) (p : Option Addr) (N c k' : Nat), e = .returned (.slice p N c) ∧ k < k' ∧ k' ≤ n ∧ Hid (Cx L n tbk tc P k0 w p0 k' bs (im W.heap.size (fun U => SlS U (.slice p N c) l) :: os) (fun f ts => q f l ts) W')) ∨ ∃ t, e = .panicked (failV t.pos) ∧ Hid (Bd L n P k0 w p0 t W') := by
 refine (h.callR (rd := fun U => SlS (hide (upL W.heap.size []) U)) hK).mono ?_
 rintro e W' (⟨l, v, k', he, hs, hlt, hkn, hC⟩ | h2)
 ·obtain ⟨p, c, rfl, _⟩ := hs.form
  exact .inl ⟨l, p, _, c, k', he, hlt, hkn, Lib.hid (hC (o := im W.heap.size (fun U => SlS U (.slice p _ c) l)) (im_it (fun _ _ h hx => hx.inc h)) rfl hs)⟩
 ·exact .inr h2
theorem Cx.callL {F : Nat} {args : Array Value} {p : Nat → Pa.Toks → Pa.R (List Tr.E)} {q : Nat → List Tr.E → Pa.Toks → Pa.R β} (h : Cx L n tbk tc P k0 w p0 k bs os (fun f ts => (p f ts).bind fun a r => q f a r) W) (hK : Calls Tryz.prog F args W (PR L n tbk tc P k p (rdL W.heap.size) W)) :
 Calls Tryz.prog F args W fun e W' => (∃ (tr : List ET) (p : Option Addr) (N c k' : Nat), e = .returned (.slice p N c) ∧ Hid (tr.length ≤ 1000000) ∧ k < k' ∧ k' ≤ n ∧ Hid (Cx L n tbk tc P k0 w p0 k' bs (imR tkE W.heap.size (.slice p N c) tr :: os) (fun f ts => q f (tr.map Prod.fst) ts) W')) ∨ ∃ t, e = .panicked (failV t.pos) ∧ Hid (Bd L n P k0 w p0 t W') := by
 refine (h.callR hK).mono ?_
 rintro e W' (⟨l, v, k', he, ⟨tr, rfl, hl, hr⟩, hlt, hkn, hC⟩ | h2)
 ·obtain ⟨p, c, rfl⟩ := own_form hr.own
  exact .inl ⟨tr, p, _, c, k', he, Lib.hid hl, hlt, hkn, Lib.hid (hC (o := imR tkE W.heap.size (.slice p _ c) tr) (imR_it tkE) rfl hr)⟩
 ·exact .inr h2
theorem Cx.callN {F : Nat} {args : Array Value} {p : Nat → Pa.Toks → Pa.R (List ByteArray)} {q : Nat → List ByteArray → Pa.Toks → Pa.R β} (h : Cx L n tbk tc P k0 w p0 k bs os (fun f ts => (p f ts).bind fun a r => q f a r) W) (hK : Calls Tryz.prog F args W (PR L n tbk tc P k p (rdN W.heap.size) W)) :
 Calls Tryz.prog F args W fun e W' => (∃ (l : List ByteArray) (p : Option Addr) (N c k' : Nat), e = .returned (.slice p N c) ∧ k < k' ∧ k' ≤ n ∧ Hid (Cx L n tbk tc P k0 w p0 k' bs (im W.heap.size (fun U => SlStr U (.slice p N c) l) :: os) (fun f ts => q f l ts) W')) ∨ ∃ t, e = .panicked (failV t.pos) ∧ Hid (Bd L n P k0 w p0 t W') := by
 refine (h.callR hK).mono ?_
 rintro e W' (⟨l, v, k', he, ⟨hl, hr⟩, hlt, hkn, hC⟩ | h2)
 ·obtain ⟨p, c, rfl⟩ := own_form hr.own
  exact .inl ⟨l, p, _, c, k', he, hlt, hkn, Lib.hid (hC (o := im W.heap.size (fun U => SlStr U (.slice p _ c) l)) (im_it (fun _ _ h hx => hx.inc h)) rfl (hr.slStr (fun _ h => by cases h) (fun _ h => by cases h)))⟩
 ·exact .inr h2
section
variable {α γ : Type} {f : α → List Value} {kk : Nat} {t te : TypeId} {ok : World → α → Prop} {rl : World → Value → List γ → Prop} {g : α → γ}
theorem Cx.pushR (T : TK f kk t te ok rl g) {B C : Nat} {v : Value} {tr : List α} {x : α} {G0 : Nat} {cs : Array Value} (h : Cx L n tbk tc P k0 w p0 k ((G0, cs, t) :: bs) [im C (fun U => ok U x), imR T B v tr] G W) (hcs : cs.toList = f x) (hlen : tr.length ≤ 1000000) (ty : TypeId) :
 ∃ p N c W', (Builtin.append_ #[te, te] ty #[v, .slice (some ⟨G0, 0, none⟩) 1 1]).run Tryz.prog W = .ok (.slice p N c) W' ∧ tr.length + 1 = N ∧ Cx L n tbk tc P k0 w p0 k bs [imR T B (.slice p N c) (tr ++ [x])] G W' := by
 obtain ⟨v', W', h1, p, c, rfl, h2⟩ := h.m.run_push hcs hlen ty
 exact ⟨p, _, c, W', h1, rfl, h.mm h2⟩
theorem Cx.pushW (T : TK f kk t te ok rl g) {B C : Nat} {v : Value} {tr : List α} {x : α} {G0 : Nat} {cs : Array Value} (h : Cx L n tbk tc P k0 w p0 k ((G0, cs, t) :: bs) [im C (fun U => ok U x), imR T B v tr] G W) (hcs : cs.toList = f x) (hlen : tr.length ≤ 1000000)
 {ops : Array Oper} {rest : List Oper} {o : Oper} {a : Act} {Q : Exit → Act → World → Prop} (hgd : o.guard = none) (s y : Operand)
 (ho : o.op = .call { callee := .builtin .append, args := #[s, y], argTypes := #[te, te] }) (hs : a.eval s = v) (hy : a.eval y = .slice (some ⟨G0, 0, none⟩) 1 1)
 (hk : ∀ (p : Option Addr) (N c : Nat) (W' : World), Hid (tr.length + 1 = N) → Hid (Cx L n tbk tc P k0 w p0 k bs [imR T B (.slice p N c) (tr ++ [x])] G W') → wpList Tryz.prog ops Q rest (a.put o.dst (.slice p N c)) W') : wpList Tryz.prog ops Q (o :: rest) a W :=
 wpList_plain hgd fun K hK => by
  obtain ⟨p, N, c, W', hr, hN, h2⟩ := h.pushR T hcs hlen o.type
  unfold Oper.wp execOp
  simp only [ho, resolve, invoke, builtin, Sem.run_bind, Sem.run_pure, Result.andThen_ok, List.map_toArray, List.map_cons, List.map_nil, hs, hy, hr]
  exact hK _ _ (hk p N c W' (Lib.hid hN) (Lib.hid h2))
theorem Cx.pushS (T : TK f kk t te ok rl g) {B C : Nat} {v : Value} {tr : List α} {x : α} {G0 : Nat} {cs : Array Value} (h : Cx L n tbk tc P k0 w p0 k ((G0, cs, t) :: bs) [im C (fun U => ok U x), imR T B v tr] G W) (hcs : cs.toList = f x) (hlen : tr.length ≤ 1000000)
 {ops : Array Oper} {E : Prop} {o : Oper} {a : Act} {K : Act → World → Prop} {Q : Exit → Act → World → Prop} (hgd : o.guard = none) (s y : Operand)
 (ho : o.op = .call { callee := .builtin .append, args := #[s, y], argTypes := #[te, te] }) (hs : a.eval s = v) (hy : a.eval y = .slice (some ⟨G0, 0, none⟩) 1 1)
 (hk : ∀ (p : Option Addr) (N c : Nat) (W' : World), Hid (tr.length + 1 = N) → Hid (Cx L n tbk tc P k0 w p0 k bs [imR T B (.slice p N c) (tr ++ [x])] G W') → K (a.put o.dst (.slice p N c)) W') : if Region.wanted o (yielded ops a.tmps) = true then Oper.wp Tryz.prog o a W K Q else E := by
 have hw : Region.wanted o (yielded ops a.tmps) = true := by simp [Region.wanted, hgd]
 rw [if_pos hw]
 obtain ⟨p, N, c, W', hr, hN, h2⟩ := h.pushR T hcs hlen o.type
 unfold Oper.wp execOp
 simp only [ho, resolve, invoke, builtin, Sem.run_bind, Sem.run_pure, Result.andThen_ok, List.map_toArray, List.map_cons, List.map_nil, hs, hy, hr]
 exact hk p N c W' (Lib.hid hN) (Lib.hid h2)
theorem Cx.appS (T : TK f kk t te ok rl g) {B2 C : Nat} {v2 : Value} {tr : List α} {x : α} {G0 : Nat} {cs : Array Value} (h : Cx L n tbk tc P k0 w p0 k ((G0, cs, t) :: bs) os G W) (i : Nat) (hi : os[i]? = some (im C (fun U => ok U x))) (j : Nat) (hj : os[j]? = some (imR T B2 v2 tr)) (hcs : cs.toList = f x) (hlen : tr.length ≤ 1000000)
 {ops : Array Oper} {E : Prop} {o : Oper} {a : Act} {K : Act → World → Prop} {Q : Exit → Act → World → Prop} (hgd : o.guard = none) (s y : Operand)
 (ho : o.op = .call { callee := .builtin .append, args := #[s, y], argTypes := #[te, te] }) (hs : a.eval s = .slice (some ⟨G0, 0, none⟩) 1 1) (hy : a.eval y = v2)
 (hk : ∀ (p : Option Addr) (N c : Nat) (W' : World), Hid (Cx L n tbk tc P k0 w p0 k bs [imR T w.heap.size (.slice p N c) (x :: tr)] G W') → K (a.put o.dst (.slice p N c)) W') : if Region.wanted o (yielded ops a.tmps) = true then Oper.wp Tryz.prog o a W K Q else E := by
 have hw : Region.wanted o (yielded ops a.tmps) = true := by simp [Region.wanted, hgd]
 rw [if_pos hw]
 obtain ⟨v', W', hr, p, c, rfl, h2⟩ := h.m.run_app i hi j hj hcs hlen o.type
 unfold Oper.wp execOp
 simp only [ho, resolve, invoke, builtin, Sem.run_bind, Sem.run_pure, Result.andThen_ok, List.map_toArray, List.map_cons, List.map_nil, hs, hy, hr]
 exact hk p _ c W' (Lib.hid (h.mm h2))
end
theorem Cx.fin {α : Type} {p : Nat → Pa.Toks → Pa.R α} {rd : World → Value → α → Prop} {a : α} {v : Value} (h : Cx L n tbk tc P k0 w (fun f => p f (Pa.rest L n k0)) k bs os (fun _ ts => .ok a ts) W) (hlt : k0 < k) (hr : rd W v a) : PR L n tbk tc P k0 p rd w (.returned v) W := ⟨h.m.gr, .inl ⟨a, v, k, h.ev _ (.const _), rfl, hr, hlt, h.ps⟩⟩
theorem Cx.finQ {α : Type} {p : Nat → Pa.Toks → Pa.R α} {rd : World → Value → α → Prop} {a : α} {v : Value} (h : Cx L n tbk tc P k0 w (fun f => p f (Pa.rest L n k0)) k bs os (fun _ ts => .ok a ts) W) (hlt : k0 < k) (hr : rd (hide (upL w.heap.size []) W) v a) : PQ L n tbk tc P k0 p rd w (.returned v) W := ⟨h.m.gr, .inl ⟨a, v, k, h.ev _ (.const _), rfl, hr, hlt, h.ps⟩⟩
theorem Cx.addN (h : Cx L n tbk tc P k0 w p0 k bs os G W) {s : ByteArray} (hs : s.size ≤ maxLen) : Cx L n tbk tc P k0 w p0 k bs (im W.heap.size (fun U => ReadNm U s) :: os) G W := h.mm (h.m.add (im_it (fun _ _ _ hx => hx)) rfl hs)
section
variable {α γ : Type} {f : α → List Value} {kk : Nat} {t te : TypeId} {ok : World → α → Prop} {rl : World → Value → List γ → Prop} {g : α → γ}
theorem Cx.nilR (T : TK f kk t te ok rl g) (h : Cx L n tbk tc P k0 w p0 k bs os G W) : Cx L n tbk tc P k0 w p0 k bs (imR T W.heap.size (.slice none 0 0) [] :: os) G W := h.mm (h.m.nil T)
end
section
variable {α : Type} {p : Nat → Pa.Toks → Pa.R α} {rd : World → Value → α → Prop} {x : α} {y vals : Array Value} {ty : TypeId}
theorem Cx.ret (h : Cx L n tbk tc P k0 w (fun f => p f (Pa.rest L n k0)) k bs os (fun _ ts => .ok x ts) W) (i : Nat) (hi : bs[i]? = some (w.heap.size, y, ty)) (hlt : k0 < k) {fn : Func} {A : Act} (hd : A.defers = [])
 (hrow : ∀ W' : World, W'.heap[w.heap.size]? = some (.cells vals ty (0, 0)) → (results fn A.tmps).run Tryz.prog W' = .ok (.agg vals) W')
 (hg : W.grownBy W' (some w.heap.size)) (hS : W'.heap[w.heap.size]? = some (.cells vals ty (0, 0)))
 (hx : ∀ U : World, (∀ (j : Nat) {X : Nat} {cs : Array Value} {t : TypeId}, j ≠ i → bs[j]? = some (X, cs, t) → U.heap[X]? = some (.cells cs t (0, 0))) → (∀ (j : Nat) {o : Im}, os[j]? = some o → o.fr U) → rd U (.agg vals) x) :
 bodyPost Tryz.prog fn (PQ L n tbk tc P k0 p rd w) .ret A W' := by
 have h2 := h.mm (h.m.set i hi hg hS)
 refine bodyPost_ret (v := .agg vals) (hrow _ hS) hd ⟨h2.m.gr, .inl ⟨x, _, k, h2.ev _ (.const _), rfl, hx _ (fun j _ _ _ hj hb => h2.m.vb j ?_) (fun j _ ho => h2.m.vo j ho), hlt, h2.ps⟩⟩
 rw [List.getElem?_set_ne (Ne.symm hj)]
 exact hb
theorem Cx.retb {ys : Array Value} {ty2 : TypeId} (h : Cx L n tbk tc P k0 w (fun f => p f (Pa.rest L n k0)) k bs os (fun _ ts => .ok x ts) W) (i : Nat) (hi : bs[i]? = some (w.heap.size, y, ty)) (hlt : k0 < k) {fn : Func} {A : Act} (hd : A.defers = [])
 (hrow : ∀ W' : World, W'.heap[w.heap.size]? = some (.cells vals ty (0, 0)) → (results fn A.tmps).run Tryz.prog W' = .ok (.agg vals) W')
 (hg : W.grownBy W' (some w.heap.size)) (hS : W'.heap[w.heap.size]? = some (.cells vals ty (0, 0))) (hz : W.heap.size = W'.heap.size)
 (hx : ∀ U : World, U.heap[W.heap.size]? = some (.cells ys ty2 (0, 0)) → (∀ (j : Nat) {X : Nat} {cs : Array Value} {t : TypeId}, j ≠ i → bs[j]? = some (X, cs, t) → U.heap[X]? = some (.cells cs t (0, 0))) → (∀ (j : Nat) {o : Im}, os[j]? = some o → o.fr U) → rd U (.agg vals) x) :
 bodyPost Tryz.prog fn (PQ L n tbk tc P k0 p rd w) .ret A (W'.alloc (.cells ys ty2)) := by
 have h2 := h.mm (h.m.set i hi hg hS)
 have h3 := h2.mm (h2.m.box (X := W.heap.size) hz ys ty2)
 refine bodyPost_ret (v := .agg vals) (hrow _ (gr_at (gr_below (below_box _ _) none) hS (fun e => by cases e))) hd ⟨h3.m.gr, .inl ⟨x, _, k, h3.ev _ (.const _), rfl, hx _ (h3.m.vb 0 rfl) (fun j _ _ _ hj hb => h3.m.vb (j + 1) ?_) (fun j _ ho => h3.m.vo j ho), hlt, h3.ps⟩⟩
 rw [List.getElem?_cons_succ, List.getElem?_set_ne (Ne.symm hj)]
 exact hb
end
theorem Cx.retE {p : Nat → Pa.Toks → Pa.R Tr.E} {x : Tr.E} {a : Value} {y0 y1 y2 y3 y4 y5 : Value} (h : Cx L n tbk tc P k0 w (fun f => p f (Pa.rest L n k0)) k bs os (fun _ ts => .ok x ts) W) (i : Nat) (hi : bs[i]? = some (w.heap.size, #[y0, y1, y2, y3, y4, y5], 33)) (hlt : k0 < k) {fn : Func} {q : Tmp} {A : Act} (hr : fn.results = #[.cell q 33]) (hq : A.tmps.getD q undef = .pointer (some ⟨w.heap.size, 0, none⟩)) (hd : A.defers = [])
 (hx : ∀ U : World, (∀ (j : Nat) {X : Nat} {cs : Array Value} {t : TypeId}, j ≠ i → bs[j]? = some (X, cs, t) → U.heap[X]? = some (.cells cs t (0, 0))) → (∀ (j : Nat) {o : Im}, os[j]? = some o → o.fr U) → ReadET U (x, a)) :
 bodyPost Tryz.prog fn (PQ L n tbk tc P k0 p rdE w) .ret A (set6 W w.heap.size (.int .i64 x.kind) (.int .i64 x.op) (.int .i64 x.int) (.string x.name) (.bool x.at_) (a)) :=
 h.ret i hi hlt hd (fun _ hS => results_cell_row hr _ _ w.heap.size _ _ _ _ hq hS Tryz.underlying33 rfl (by kernel_rfl)) (set6_gr _ _ _ _ _ _ _ _) (set6_blk (.int .i64 x.kind) (.int .i64 x.op) (.int .i64 x.int) (.string x.name) (.bool x.at_) (a) (h.m.b i hi)) (fun U bb oo => ⟨a, rfl, hx U bb oo⟩)
theorem Cx.retS {p : Nat → Pa.Toks → Pa.R Tr.S} {x : Tr.S} {a b c : Value} {y0 y1 y2 y3 y4 : Value} (h : Cx L n tbk tc P k0 w (fun f => p f (Pa.rest L n k0)) k bs os (fun _ ts => .ok x ts) W) (i : Nat) (hi : bs[i]? = some (w.heap.size, #[y0, y1, y2, y3, y4], 94)) (hlt : k0 < k) {fn : Func} {q : Tmp} {A : Act} (hr : fn.results = #[.cell q 94]) (hq : A.tmps.getD q undef = .pointer (some ⟨w.heap.size, 0, none⟩)) (hd : A.defers = [])
 (hx : ∀ U : World, (∀ (j : Nat) {X : Nat} {cs : Array Value} {t : TypeId}, j ≠ i → bs[j]? = some (X, cs, t) → U.heap[X]? = some (.cells cs t (0, 0))) → (∀ (j : Nat) {o : Im}, os[j]? = some o → o.fr U) → ReadST U (x, a, b, c)) :
 bodyPost Tryz.prog fn (PQ L n tbk tc P k0 p rdS w) .ret A (set5 W w.heap.size (.int .i64 x.kind) (.string x.name) (a) (b) (c)) :=
 h.ret i hi hlt hd (fun _ hS => results_cell_row hr _ _ w.heap.size _ _ _ _ hq hS Tryz.underlying94 rfl (by kernel_rfl)) (set5_gr _ _ _ _ _ _ _) (set5_blk (.int .i64 x.kind) (.string x.name) (a) (b) (c) (h.m.b i hi)) (fun U bb oo => ⟨a, b, c, rfl, hx U bb oo⟩)
theorem Cx.retEb {p : Nat → Pa.Toks → Pa.R Tr.E} {x : Tr.E} {a : Value} {y0 y1 y2 y3 y4 y5 : Value} {ys : Array Value} {ty2 : TypeId} (h : Cx L n tbk tc P k0 w (fun f => p f (Pa.rest L n k0)) k bs os (fun _ ts => .ok x ts) W) (i : Nat) (hi : bs[i]? = some (w.heap.size, #[y0, y1, y2, y3, y4, y5], 33)) (hlt : k0 < k) {fn : Func} {q : Tmp} {A : Act} (hr : fn.results = #[.cell q 33]) (hq : A.tmps.getD q undef = .pointer (some ⟨w.heap.size, 0, none⟩)) (hd : A.defers = [])
 (hx : ∀ U : World, U.heap[W.heap.size]? = some (.cells ys ty2 (0, 0)) → (∀ (j : Nat) {X : Nat} {cs : Array Value} {t : TypeId}, j ≠ i → bs[j]? = some (X, cs, t) → U.heap[X]? = some (.cells cs t (0, 0))) → (∀ (j : Nat) {o : Im}, os[j]? = some o → o.fr U) → ReadET U (x, a)) :
 bodyPost Tryz.prog fn (PQ L n tbk tc P k0 p rdE w) .ret A ((set6 W w.heap.size (.int .i64 x.kind) (.int .i64 x.op) (.int .i64 x.int) (.string x.name) (.bool x.at_) (a)).alloc (.cells ys ty2)) :=
 h.retb i hi hlt hd (fun _ hS => results_cell_row hr _ _ w.heap.size _ _ _ _ hq hS Tryz.underlying33 rfl (by kernel_rfl)) (set6_gr _ _ _ _ _ _ _ _) (set6_blk (.int .i64 x.kind) (.int .i64 x.op) (.int .i64 x.int) (.string x.name) (.bool x.at_) (a) (h.m.b i hi)) (by simp [set6]) (fun U gg bb oo => ⟨a, rfl, hx U gg bb oo⟩)
theorem Cx.retSb {p : Nat → Pa.Toks → Pa.R Tr.S} {x : Tr.S} {a b c : Value} {y0 y1 y2 y3 y4 : Value} {ys : Array Value} {ty2 : TypeId} (h : Cx L n tbk tc P k0 w (fun f => p f (Pa.rest L n k0)) k bs os (fun _ ts => .ok x ts) W) (i : Nat) (hi : bs[i]? = some (w.heap.size, #[y0, y1, y2, y3, y4], 94)) (hlt : k0 < k) {fn : Func} {q : Tmp} {A : Act} (hr : fn.results = #[.cell q 94]) (hq : A.tmps.getD q undef = .pointer (some ⟨w.heap.size, 0, none⟩)) (hd : A.defers = [])
 (hx : ∀ U : World, U.heap[W.heap.size]? = some (.cells ys ty2 (0, 0)) → (∀ (j : Nat) {X : Nat} {cs : Array Value} {t : TypeId}, j ≠ i → bs[j]? = some (X, cs, t) → U.heap[X]? = some (.cells cs t (0, 0))) → (∀ (j : Nat) {o : Im}, os[j]? = some o → o.fr U) → ReadST U (x, a, b, c)) :
 bodyPost Tryz.prog fn (PQ L n tbk tc P k0 p rdS w) .ret A ((set5 W w.heap.size (.int .i64 x.kind) (.string x.name) (a) (b) (c)).alloc (.cells ys ty2)) :=
 h.retb i hi hlt hd (fun _ hS => results_cell_row hr _ _ w.heap.size _ _ _ _ hq hS Tryz.underlying94 rfl (by kernel_rfl)) (set5_gr _ _ _ _ _ _ _) (set5_blk (.int .i64 x.kind) (.string x.name) (a) (b) (c) (h.m.b i hi)) (by simp [set5]) (fun U gg bb oo => ⟨a, b, c, rfl, hx U gg bb oo⟩)
theorem Cx.retC {p : Nat → Pa.Toks → Pa.R Tr.C} {x : Tr.C} {a b : Value} {y0 y1 y2 y3 : Value} (h : Cx L n tbk tc P k0 w (fun f => p f (Pa.rest L n k0)) k bs os (fun _ ts => .ok x ts) W) (i : Nat) (hi : bs[i]? = some (w.heap.size, #[y0, y1, y2, y3], 49)) (hlt : k0 < k) {fn : Func} {q : Tmp} {A : Act} (hr : fn.results = #[.cell q 49]) (hq : A.tmps.getD q undef = .pointer (some ⟨w.heap.size, 0, none⟩)) (hd : A.defers = [])
 (hx : ∀ U : World, (∀ (j : Nat) {X : Nat} {cs : Array Value} {t : TypeId}, j ≠ i → bs[j]? = some (X, cs, t) → U.heap[X]? = some (.cells cs t (0, 0))) → (∀ (j : Nat) {o : Im}, os[j]? = some o → o.fr U) → ReadC U x a b) :
 bodyPost Tryz.prog fn (PQ L n tbk tc P k0 p rdC w) .ret A (set4 W w.heap.size (.string x.name) (.bool x.actor) (a) (b)) :=
 h.ret i hi hlt hd (fun _ hS => results_cell_row hr _ _ w.heap.size _ _ _ _ hq hS Tryz.underlying49 rfl (by kernel_rfl)) (set4_gr _ _ _ _ _ _) (set4_blk (.string x.name) (.bool x.actor) (a) (b) (h.m.b i hi)) (fun U bb oo => ⟨a, b, rfl, hx U bb oo⟩)
end
end Go.Proofs.YtdckddkalgnlpaaGreatDoor
