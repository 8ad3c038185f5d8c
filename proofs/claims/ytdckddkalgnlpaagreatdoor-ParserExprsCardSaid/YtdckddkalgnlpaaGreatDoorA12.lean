/-
  Several texts in one: PrBase, PrCxA, PrIs.
-/
import Derived.Test.YtdckddkalgnlpaaGreatDoorA11
namespace Go.Proofs.YtdckddkalgnlpaaGreatDoor
open Go.RowKit Go.Maps Pw
structure RS (L : List Lex.Tok) (n tbk tc P k : Nat) (b : Bool) (W : World) : Prop where
 blk : W.heap[P]? = some (.cells #[.slice (some ⟨tbk, 0, none⟩) (n + 1) tc, .int .i64 k, .bool b] 57 (0, 0))
 toks : ToksAt W tbk L
 lt : tbk < W.heap.size
 ne : tbk ≠ P
 le : k ≤ n
 cap : n + 1 ≤ tc
 few : n ≤ 900000
theorem RS.keep {L : List Lex.Tok} {n tbk tc P k : Nat} {b : Bool} {W W' : World} {r : Option Nat} (h : RS L n tbk tc P k b W) (hg : W.grownBy W' r) (h1 : some P ≠ r) (h2 : some tbk ≠ r) : RS L n tbk tc P k b W' :=
 ⟨gr_at hg h.blk h1, fun j t hj => by
  obtain ⟨a, b, c, d⟩ := h.toks j t hj
  exact ⟨gr_cell hg a h2, gr_cell hg b h2, gr_cell hg c h2, gr_cell hg d h2⟩, Nat.lt_of_lt_of_le h.lt hg.size, h.ne, h.le, h.cap, h.few⟩
theorem RS.below {L : List Lex.Tok} {n tbk tc P k : Nat} {b : Bool} {W W' : World} (h : RS L n tbk tc P k b W) (hb : Below W.heap.size W W') : RS L n tbk tc P k b W' := h.keep (gr_below hb none) (fun e => by cases e) (fun e => by cases e)
theorem RS.plt {L : List Lex.Tok} {n tbk tc P k : Nat} {b : Bool} {W : World} (h : RS L n tbk tc P k b W) : P < W.heap.size := (Array.getElem?_eq_some_iff.1 h.blk).1
theorem RS.mv {L : List Lex.Tok} {n tbk tc P k : Nat} {b : Bool} {W : World} (h : RS L n tbk tc P k b W) {j : Nat} {v : Value} {k' : Nat} {b' : Bool} (hk : k' ≤ n) (hv : (#[.slice (some ⟨tbk, 0, none⟩) (n + 1) tc, .int .i64 k, .bool b] : Array Value).setIfInBounds j v = #[.slice (some ⟨tbk, 0, none⟩) (n + 1) tc, .int .i64 k', .bool b']) : RS L n tbk tc P k' b' (W.setCell ⟨P, j, none⟩ v) := by
 have hg := gr_set W P j v
 refine ⟨by rw [← hv]; exact heap_set (j := j) v h.blk, fun q t hq => ?_, Nat.lt_of_lt_of_le h.lt hg.size, h.ne, hk, h.cap, h.few⟩
 obtain ⟨a, b, c, d⟩ := h.toks q t hq
 have hn : some tbk ≠ some P := fun e => h.ne (by injection e)
 exact ⟨gr_cell hg a hn, gr_cell hg b hn, gr_cell hg c hn, gr_cell hg d hn⟩
theorem RS.err {L : List Lex.Tok} {n tbk tc P k : Nat} {b : Bool} {W : World} (h : RS L n tbk tc P k b W) : RS L n tbk tc P k true (W.setCell ⟨P, 2, none⟩ (.bool true)) := h.mv h.le rfl
theorem RS.inc {L : List Lex.Tok} {n tbk tc P k : Nat} {b : Bool} {W : World} (h : RS L n tbk tc P k b W) (hk : k < n) : RS L n tbk tc P (k + 1) b (W.setCell ⟨P, 1, none⟩ (.int .i64 (↑k + 1))) := h.mv hk (by rw [← Int.natCast_succ]; rfl)
end Go.Proofs.YtdckddkalgnlpaaGreatDoor
namespace Go.Proofs.YtdckddkalgnlpaaGreatDoor
open Go.RowKit Go.Maps Pw
def Pa.mv {β : Type} (b : Bool) (G : Nat → Pa.Toks → Pa.R β) (ts : Pa.Toks) (f : Nat) : Pa.R β := bif b then .bad ts else G f ts
theorem Pa.Ev.call {α β : Type} {p : Nat → Pa.Toks → Pa.R α} {q : Nat → α → Pa.Toks → Pa.R β} {b b' : Bool} {ts r : Pa.Toks} {a : α} (h : Pa.Ev (fun f => Pa.mv b p ts f) (Pa.mv b' (fun _ ts => .ok a ts) r 0)) {x : Pa.R β} (hx : Pa.Ev (fun f => Pa.mv b' (fun f ts => q f a ts) r f) x) : Pa.Ev (fun f => Pa.mv b (fun f ts => (p f ts).bind fun a r => q f a r) ts f) x := by
 cases b with
 | true =>
   have e := Pa.Ev.det (Pa.Ev.const (.bad ts)) h
   cases b' with
   | true =>
     have e2 : (Pa.R.bad ts : Pa.R α) = .bad r := e
     injection e2 with e2
     subst e2
     exact hx
   | false => cases e
 | false =>
   cases b' with
   | true =>
     have e := Pa.Ev.det (Pa.Ev.const (.bad r)) hx
     exact e ▸ Pa.Ev.bad h
   | false => exact Pa.Ev.ok h hx
theorem Pa.Ev.mv {β : Type} {b : Bool} {G G' : Nat → Pa.Toks → Pa.R β} {ts : Pa.Toks} {x : Pa.R β} (e : Pa.Ev (fun f => G' f ts) x → Pa.Ev (fun f => G f ts) x) (h : Pa.Ev (fun f => Pa.mv b G' ts f) x) : Pa.Ev (fun f => Pa.mv b G ts f) x := by
 cases b with
 | true => exact h
 | false => exact e h
theorem RS.kept {L : List Lex.Tok} {n tbk tc P k : Nat} {b : Bool} {w : World} (h1 : P < w.heap.size) (h2 : tbk < w.heap.size) {U U' : World} {row : Option Nat} (hg : U.grownBy U' row) (hr : ∀ q, row = some q → w.heap.size ≤ q) (h : RS L n tbk tc P k b U) : RS L n tbk tc P k b U' :=
 h.keep hg (fun e => by have := hr P e.symm; omega) (fun e => by have := hr tbk e.symm; omega)
def RX {α : Type} (L : List Lex.Tok) (n tbk tc P k : Nat) (b : Bool) (p : Nat → Pa.Toks → Pa.R α) (rd : World → Value → α → Prop) (X : α → Nat → Bool → Prop) (w : World) (e : Ending) (w' : World) : Prop :=
 ∃ a v k' b', e = .returned v ∧ w.grownBy w' (some P) ∧ RS L n tbk tc P k' b' w' ∧ k ≤ k' ∧ Pa.Ev (fun f => Pa.mv b p (Pa.rest L n k) f) (Pa.mv b' (fun _ ts => .ok a ts) (Pa.rest L n k') 0) ∧ rd w' v a ∧ X a k' b'
def hdn {α : Type} (rd : World → Value → α → Prop) (w W : World) (v : Value) (a : α) : Prop := rd (hide (upL w.heap.size []) W) v a
abbrev RQ {α : Type} (L : List Lex.Tok) (n tbk tc P k : Nat) (b : Bool) (p : Nat → Pa.Toks → Pa.R α) (rd : World → Value → α → Prop) (w : World) : Ending → World → Prop := RX L n tbk tc P k b p (hdn rd w) (fun _ _ _ => True) w
structure Cr {β : Type} (L : List Lex.Tok) (n tbk tc P k0 : Nat) (w : World) (p0 : Nat → Pa.R β) (k : Nat) (b : Bool) (bs : List Bk) (os : List Im) (G : Nat → Pa.Toks → Pa.R β) (W : World) : Prop where
 m : Mx w P (RS L n tbk tc P k b) bs os W
 kk : k0 ≤ k
 tw : tbk < w.heap.size
 hL : Pa.TkL L n
 ev : ∀ x, Pa.Ev (fun f => Pa.mv b G (Pa.rest L n k) f) x → Pa.Ev p0 x
section
variable {β : Type} {L : List Lex.Tok} {n tbk tc P k0 k : Nat} {b : Bool} {w W W' : World} {p0 : Nat → Pa.R β} {bs : List Bk} {os : List Im} {G G' : Nat → Pa.Toks → Pa.R β}
theorem Cr.start (hL : Pa.TkL L n) (hp : RS L n tbk tc P k b w) (p : Nat → Pa.Toks → Pa.R β) : Cr L n tbk tc P k w (fun f => Pa.mv b p (Pa.rest L n k) f) k b [] [] p w :=
 ⟨⟨hp, fun hg hr h => RS.kept hp.plt hp.lt hg hr h, gr_refl _ _, hp.plt, (fun _ h => by cases h), List.nodup_nil, (fun _ h => by cases h), List.Pairwise.nil⟩, Nat.le_refl _, hp.lt, hL, fun _ h => h⟩
theorem Cr.ps (h : Cr L n tbk tc P k0 w p0 k b bs os G W) : RS L n tbk tc P k b W := h.m.ps
theorem Cr.le (h : Cr L n tbk tc P k0 w p0 k b bs os G W) : k ≤ n := h.m.ps.le
theorem Cr.mm {bs' : List Bk} {os' : List Im} (h : Cr L n tbk tc P k0 w p0 k b bs os G W) (hm : Mx w P (RS L n tbk tc P k b) bs' os' W') : Cr L n tbk tc P k0 w p0 k b bs' os' G W' := ⟨hm, h.kk, h.tw, h.hL, h.ev⟩
theorem Cr.nrm {bs' : List Bk} (h : Cr L n tbk tc P k0 w p0 k b bs os G W) (e : bs = bs') : Cr L n tbk tc P k0 w p0 k b bs' os G W := e ▸ h
theorem Cr.evs (h : Cr L n tbk tc P k0 w p0 k b bs os G W) (e : ∀ x, Pa.Ev (fun f => G' f (Pa.rest L n k)) x → Pa.Ev (fun f => G f (Pa.rest L n k)) x) : Cr L n tbk tc P k0 w p0 k b bs os G' W := ⟨h.m, h.kk, h.tw, h.hL, fun x hx => h.ev x (.mv (e x) hx)⟩
theorem Cr.spec (h : Cr L n tbk tc P k0 w p0 k b bs os G W) (e : ∀ f ts, G (f + 1) ts = G' f ts) : Cr L n tbk tc P k0 w p0 k b bs os G' W := h.evs fun _ hx => .step (fun f => e f _) hx
theorem Cr.spc (h : Cr L n tbk tc P k0 w p0 k b bs os G W) (e : ∀ f ts, G f ts = G' f ts) : Cr L n tbk tc P k0 w p0 k b bs os G' W := h.evs fun _ hx => .cong (fun f => e f _) hx
theorem Cr.at_ (h : Cr L n tbk tc P k0 w p0 k b bs os G W) (e : ∀ f, G (f + 1) (Pa.rest L n k) = G' f (Pa.rest L n k)) : Cr L n tbk tc P k0 w p0 k b bs os G' W := h.evs fun _ hx => .step e hx
theorem Cr.at0 (h : Cr L n tbk tc P k0 w p0 k b bs os G W) (e : ∀ f, G f (Pa.rest L n k) = G' f (Pa.rest L n k)) : Cr L n tbk tc P k0 w p0 k b bs os G' W := h.evs fun _ hx => .cong e hx
theorem Cr.keep (h : Cr L n tbk tc P k0 w p0 k b bs os G W) (hb : Below W.heap.size W W') : Cr L n tbk tc P k0 w p0 k b bs os G W' := h.mm (h.m.below hb)
theorem Cr.par (h : Cr L n tbk tc P k0 w p0 k b bs os G W) {k' : Nat} {b' : Bool} (hg : W.grownBy W' (some P)) (hp : RS L n tbk tc P k' b' W') (hk : k ≤ k') (he : ∀ x, Pa.Ev (fun f => Pa.mv b' G' (Pa.rest L n k') f) x → Pa.Ev (fun f => Pa.mv b G (Pa.rest L n k) f) x) : Cr L n tbk tc P k0 w p0 k' b' bs os G' W' :=
 ⟨h.m.par hg (fun hg hr h2 => RS.kept h.m.pw h.tw hg hr h2) hp, Nat.le_trans h.kk hk, h.tw, h.hL, fun x hx => h.ev x (he x hx)⟩
theorem Cr.boxE (h : Cr L n tbk tc P k0 w p0 k b bs os G W) (cs : Array Value) (t : TypeId) : ∃ X W', Hid (X = W.heap.size) ∧ Hid (W' = W.alloc (.cells cs t)) ∧ W.heap.size ≤ X ∧ Hid (Cr L n tbk tc P k0 w p0 k b ((X, cs, t) :: bs) os G W') := ⟨_, _, Lib.hid rfl, Lib.hid rfl, Nat.le_refl _, Lib.hid (h.mm (h.m.box rfl cs t))⟩
theorem Cr.boxR (h : Cr L n tbk tc P k0 w p0 k b [] [] G w) (cs : Array Value) (t : TypeId) : ∃ W', Hid (W' = w.alloc (.cells cs t)) ∧ Hid (Cr L n tbk tc P k0 w p0 k b [(w.heap.size, cs, t)] [] G W') := ⟨_, Lib.hid rfl, Lib.hid (h.mm (h.m.box rfl cs t))⟩
theorem Cr.drewE (h : Cr L n tbk tc P k0 w p0 k b bs os G W) : ∃ W', Hid (W' = W.drew) ∧ Hid (Cr L n tbk tc P k0 w p0 k b bs os G W') := ⟨_, Lib.hid rfl, Lib.hid (h.mm (h.m.same (gr_drew (gr_refl _ _))))⟩
theorem Cr.passed (h : Cr L n tbk tc P k0 w p0 k false bs os G W) (hlt : k < n) (hg : W.grownBy W' (some P)) (hp : RS L n tbk tc P (k + 1) false W') (he : ∀ f, G f (Pa.rest L n k) = G' f (Pa.rest L n k).tail) : Cr L n tbk tc P k0 w p0 (k + 1) false bs os G' W' :=
 h.par hg hp (Nat.le_succ k) fun x hx => .cong he (by rw [Pa.rest_tail h.hL hlt]; exact hx)
end
structure Cm (L : List Lex.Tok) (n tbk tc P : Nat) (w : World) (k : Nat) (b : Bool) (bs : List Bk) (W : World) : Prop where
 m : Mx w P (RS L n tbk tc P k b) bs [] W
 tw : tbk < w.heap.size
 hL : Pa.TkL L n
section
variable {L : List Lex.Tok} {n tbk tc P k : Nat} {b : Bool} {w W W' : World} {bs : List Bk}
theorem Cm.start (hL : Pa.TkL L n) (hp : RS L n tbk tc P k b w) : Cm L n tbk tc P w k b [] w :=
 ⟨⟨hp, fun hg hr h => RS.kept hp.plt hp.lt hg hr h, gr_refl _ _, hp.plt, (fun _ h => by cases h), List.nodup_nil, (fun _ h => by cases h), List.Pairwise.nil⟩, hp.lt, hL⟩
theorem Cm.ps (h : Cm L n tbk tc P w k b bs W) : RS L n tbk tc P k b W := h.m.ps
theorem Cm.le (h : Cm L n tbk tc P w k b bs W) : k ≤ n := h.m.ps.le
theorem Cm.mm {bs' : List Bk} (h : Cm L n tbk tc P w k b bs W) (hm : Mx w P (RS L n tbk tc P k b) bs' [] W') : Cm L n tbk tc P w k b bs' W' := ⟨hm, h.tw, h.hL⟩
theorem Cm.boxE (h : Cm L n tbk tc P w k b bs W) (cs : Array Value) (t : TypeId) : ∃ X W', Hid (X = W.heap.size) ∧ Hid (W' = W.alloc (.cells cs t)) ∧ W.heap.size ≤ X ∧ Hid (Cm L n tbk tc P w k b ((X, cs, t) :: bs) W') := ⟨_, _, Lib.hid rfl, Lib.hid rfl, Nat.le_refl _, Lib.hid (h.mm (h.m.box rfl cs t))⟩
theorem Cm.boxR (h : Cm L n tbk tc P w k b [] w) (cs : Array Value) (t : TypeId) : ∃ W', Hid (W' = w.alloc (.cells cs t)) ∧ Hid (Cm L n tbk tc P w k b [(w.heap.size, cs, t)] W') := ⟨_, Lib.hid rfl, Lib.hid (h.mm (h.m.box rfl cs t))⟩
theorem Cm.drewE (h : Cm L n tbk tc P w k b bs W) : ∃ W', Hid (W' = W.drew) ∧ Hid (Cm L n tbk tc P w k b bs W') := ⟨_, Lib.hid rfl, Lib.hid (h.mm (h.m.same (gr_drew (gr_refl _ _))))⟩
theorem Cm.nrm {bs' : List Bk} (h : Cm L n tbk tc P w k b bs W) (e : bs = bs') : Cm L n tbk tc P w k b bs' W := e ▸ h
theorem Cm.par {k' : Nat} {b' : Bool} (h : Cm L n tbk tc P w k b bs W) (hg : W.grownBy W' (some P)) (hp : RS L n tbk tc P k' b' W') : Cm L n tbk tc P w k' b' bs W' := ⟨h.m.par hg (fun hg hr h2 => RS.kept h.m.pw h.tw hg hr h2) hp, h.tw, h.hL⟩
end
end Go.Proofs.YtdckddkalgnlpaaGreatDoor
namespace Go.Proofs.YtdckddkalgnlpaaGreatDoor
open Go.RowKit Go.Maps Pw
theorem field1 (a b c d : Value) (w : World) : (Instr.field 59 (.agg #[a, b, c, d]) 1).run Tryz.prog w = .ok b w := by kernel_rfl
set_option maxRecDepth 100000 in
set_option maxHeartbeats 8000000 in
theorem isR_any {L : List Lex.Tok} {n tbk tc P k : Nat} {b : Bool} {w : World} (hp : RS L n tbk tc P k b w) (hL : Pa.TkL L n) (s : ByteArray) (hs : s.data.toList ≠ []) :
 Calls Tryz.prog 119 #[.pointer (some ⟨P, 0, none⟩), .string s] w fun e w' => e = .returned (.bool (!b && Pa.is s.data.toList (Pa.rest L n k))) ∧ Below w.heap.size w w' := by
 obtain ⟨t, ht⟩ := hL.get hp.le
 obtain ⟨r, hr⟩ : ∃ r, (!b && Pa.is s.data.toList (Pa.rest L n k)) = r := ⟨_, rfl⟩
 rw [hr]
 rw [Pa.is_at hL hp.le ht _ hs] at hr
 have HR := Lib.hid hr
 have HT := Lib.hid ht
 clear hr ht hs
 have C1 := Lib.hid (Cm.start hL hp)
 clear hL hp
 go_enter Tryz.func119, Tryz.ntmps119
 go_upto_region 1 with fail
 obtain ⟨w2, HW, C2⟩ := C1.out.drewE
 have y0 := Lib.hid (cell_of_blkP C2.out.ps.blk (j := 0) (u := .slice (some ⟨tbk, 0, none⟩) (n + 1) tc) rfl)
 have y1 := Lib.hid (cell_of_blkP C2.out.ps.blk (j := 1) (u := .int .i64 k) rfl)
 obtain ⟨x2, x3, x4, x5⟩ := C2.out.ps.toks k t HT.out
 have y2 := Lib.hid x2
 have y3 := Lib.hid x3
 have y4 := Lib.hid x4
 have y5 := Lib.hid x5
 clear x2 x3 x4 x5
 have hfew := C2.out.hL.few
 have hle := C2.out.le
 have hcap := C2.out.ps.cap
 have a1 : (0 : Int) ≤ (k : Int) := by omega
 have a2 : (k : Int) < (n : Int) + 1 := by omega
 have HBD : Hid (Below w.heap.size w w2) := Lib.hid (by rw [HW.out]; exact (Below.refl _ _).drew)
 refine wp_region_held_drew (S := fun W => W.cell? (⟨P, 0, none⟩) = some (.slice (some ⟨tbk, 0, none⟩) (n + 1) tc) ∧ W.cell? (⟨P, 1, none⟩) = some (.int .i64 k) ∧ W.cell? (⟨tbk, k * 4, none⟩) = some (.int .i64 t.kind) ∧ W.cell? (⟨tbk, k * 4 + 1, none⟩) = some (.string ⟨t.text.toArray⟩) ∧ W.cell? (⟨tbk, k * 4 + 2, none⟩) = some (.int .i64 t.val) ∧ W.cell? (⟨tbk, k * 4 + 3, none⟩) = some (.int .i64 t.pos)) (by kernel_rfl) (by rw [← HW.out]; exact ⟨y0.out, y1.out, y2.out, y3.out, y4.out, y5.out⟩) (fun hHeld => ?_)
 rw [← HW.out] at hHeld ⊢
 clear HW C1
 refine rT 0 (some 6) ?_
 try simp only [Act.put, q0, q1, q2]
 refine rT 1 (some 7) ?_
 try simp only [Act.put, q0, q1, q2]
 refine rT 2 (some 8) ?_
 try simp only [Act.put, q0, q1, q2]
 refine rT 3 (some 9) ?_
 try simp only [Act.put, q0, q1, q2]
 refine rT 4 (some 10) ?_
 try simp only [Act.put, q0, q1, q2]
 refine rT 5 (some 11) ?_
 try simp only [Act.put, q0, q1, q2]
 refine rT 6 (some 12) ?_
 try simp only [Act.put, q0, q1, q2]
 refine rT 7 (some 13) ?_
 try simp only [Act.put, q0, q1, q2]
 refine rT 8 (some 14) ?_
 try simp only [Act.put, q0, q1, q2]
 refine rT 9 (some 15) ?_
 try simp only [Act.put, q0, q1, q2]
 obtain ⟨T, w3, HX, HW, hx3, C3⟩ := C2.out.boxE #[.int .i64 0, .string ⟨#[]⟩, .int .i64 0, .int .i64 0] 59
 have HB3 : Hid (Below w2.heap.size w2 w3) := Lib.hid (by rw [HW.out]; exact below_box _ _)
 refine rR1 10 (some 5) (fun K hK => ?_)
 clear hHeld
 go_simp
 refine hK.out _ _ ⟨cell_keep' (below_box w2 _) y0.out, cell_keep' (below_box w2 _) y1.out, cell_keep' (below_box w2 _) y2.out, cell_keep' (below_box w2 _) y3.out, cell_keep' (below_box w2 _) y4.out, cell_keep' (below_box w2 _) y5.out⟩ (fun _ => ?_)
 clear hK K
 try simp only [Act.put, q0, q1, q2]
 rw [← HX.out, ← HW.out]
 clear HX HW C2
 refine rR1 11 none (fun K hK => ?_)
 obtain ⟨l0, c00, f00, c01, f01, c02, f02, c03, f03⟩ := cells4 (C3.out.m.b 0 rfl)
 obtain ⟨w4, HW⟩ : ∃ q, Hid (q = ((((w3.setCell ⟨T, 0, none⟩ (.int .i64 t.kind)).setCell ⟨T, 1, none⟩ (.string ⟨t.text.toArray⟩)).setCell ⟨T, 2, none⟩ (.int .i64 t.val)).setCell ⟨T, 3, none⟩ (.int .i64 t.pos))) := ⟨_, Lib.hid rfl⟩
 have C4 := Lib.hid (C3.out.mm (W' := w4) (C3.out.m.set 0 rfl (by rw [HW.out]; exact gr_trans (gr_trans (gr_trans (gr_set w3 T 0 (.int .i64 t.kind)) (gr_set (w3.setCell ⟨T, 0, none⟩ (.int .i64 t.kind)) T 1 (.string ⟨t.text.toArray⟩))) (gr_set ((w3.setCell ⟨T, 0, none⟩ (.int .i64 t.kind)).setCell ⟨T, 1, none⟩ (.string ⟨t.text.toArray⟩)) T 2 (.int .i64 t.val))) (gr_set (((w3.setCell ⟨T, 0, none⟩ (.int .i64 t.kind)).setCell ⟨T, 1, none⟩ (.string ⟨t.text.toArray⟩)).setCell ⟨T, 2, none⟩ (.int .i64 t.val)) T 3 (.int .i64 t.pos))) (by rw [HW.out]; exact (heap_set (j := 3) (.int .i64 t.pos) (heap_set (j := 2) (.int .i64 t.val) (heap_set (j := 1) (.string ⟨t.text.toArray⟩) (heap_set (j := 0) (.int .i64 t.kind) (C3.out.m.b 0 rfl))))))))
 go_simp
 refine hK.out _ _ ⟨cell_keep' (gr_fresh (gr_new (gr_below HB3.out none) (set4_gr w3 T (.int .i64 t.kind) (.string ⟨t.text.toArray⟩) (.int .i64 t.val) (.int .i64 t.pos)) hx3)) y0.out, cell_keep' (gr_fresh (gr_new (gr_below HB3.out none) (set4_gr w3 T (.int .i64 t.kind) (.string ⟨t.text.toArray⟩) (.int .i64 t.val) (.int .i64 t.pos)) hx3)) y1.out, cell_keep' (gr_fresh (gr_new (gr_below HB3.out none) (set4_gr w3 T (.int .i64 t.kind) (.string ⟨t.text.toArray⟩) (.int .i64 t.val) (.int .i64 t.pos)) hx3)) y2.out, cell_keep' (gr_fresh (gr_new (gr_below HB3.out none) (set4_gr w3 T (.int .i64 t.kind) (.string ⟨t.text.toArray⟩) (.int .i64 t.val) (.int .i64 t.pos)) hx3)) y3.out, cell_keep' (gr_fresh (gr_new (gr_below HB3.out none) (set4_gr w3 T (.int .i64 t.kind) (.string ⟨t.text.toArray⟩) (.int .i64 t.val) (.int .i64 t.pos)) hx3)) y4.out, cell_keep' (gr_fresh (gr_new (gr_below HB3.out none) (set4_gr w3 T (.int .i64 t.kind) (.string ⟨t.text.toArray⟩) (.int .i64 t.val) (.int .i64 t.pos)) hx3)) y5.out⟩ (fun _ => ?_)
 clear hK K
 try simp only [Act.put, q0, q1, q2]
 refine wpAnyH_done (by kernel_rfl) ?_ _
 have HBT : Hid (Below w.heap.size w w4) := Lib.hid (by rw [HW.out]; exact below_next HBD.out (gr_fresh (gr_new (gr_below HB3.out none) (set4_gr w3 T (.int .i64 t.kind) (.string ⟨t.text.toArray⟩) (.int .i64 t.val) (.int .i64 t.pos)) hx3)))
 rw [← HW.out]
 clear HW C3 l0 c00 f00 c01 f01 c02 f02 c03 f03
 have C5 := Lib.hid (C4.out.nrm (bs' := [(T, #[.int .i64 t.kind, .string ⟨t.text.toArray⟩, .int .i64 t.val, .int .i64 t.pos], 59)]) rfl)
 clear C4
 clear y0 y1 y2 y3 y4 y5 hcap a1 a2 HB3 hx3 HBD
 obtain ⟨l0, c00, f00, c01, f01, c02, f02, c03, f03⟩ := cells4 (C5.out.m.b 0 rfl)
 cases b with
 | true =>
   obtain rfl : false = r := HR.out
   have p2 := cell_of_blkP C5.out.ps.blk (j := 2) (u := .bool true) rfl
   go_wp2_with fail
   go_ret
   exact ⟨rfl, HBT.out⟩
 | false =>
   have p2 := cell_of_blkP C5.out.ps.blk (j := 2) (u := .bool false) rfl
   by_cases hx : t.text = s.data.toList
   ·have e : (⟨t.text.toArray⟩ : ByteArray) = s := by rw [hx]
    have hr := HR.out
    rw [beq_iff_eq.2 hx] at hr
    subst e
    clear hx
    cases h4 : (t.kind == 4) with
    | true =>
      rw [h4] at hr
      obtain rfl : true = r := hr
      have k4 : ((t.kind : Int) == 4) = true := (kind_beq t.kind 4).trans h4
      clear h4
      go_wp2_with fail
      go_ret
      exact ⟨rfl, HBT.out⟩
    | false =>
      have k4 : ((t.kind : Int) == 4) = false := (kind_beq t.kind 4).trans h4
      cases h5 : (t.kind == 5) with
      | true =>
        rw [h4, h5] at hr
        obtain rfl : true = r := hr
        have k5 : ((t.kind : Int) == 5) = true := (kind_beq t.kind 5).trans h5
        clear h4 h5
        go_wp2_with fail
        go_ret
        exact ⟨rfl, HBT.out⟩
      | false =>
        rw [h4, h5] at hr
        obtain rfl : false = r := hr
        have k5 : ((t.kind : Int) == 5) = false := (kind_beq t.kind 5).trans h5
        clear h4 h5
        go_wp2_with fail
        go_ret
        exact ⟨rfl, HBT.out⟩
   ·have hr := HR.out
    rw [beq_eq_false_iff_ne.2 hx] at hr
    obtain rfl : false = r := hr
    have hne : ¬ t.text = s.toList := by rw [Lib.toList_data]; exact hx
    have hne2 : (t.text == s.toList) = false := beq_eq_false_iff_ne.2 hne
    clear hx
    go_wp2_with fail
    go_ret
    exact ⟨rfl, HBT.out⟩
set_option maxRecDepth 100000 in
set_option maxHeartbeats 8000000 in
theorem accept_yes {L : List Lex.Tok} {n tbk tc P k : Nat} {w : World} (hp : RS L n tbk tc P k false w) (hL : Pa.TkL L n) (s : ByteArray) (hs : s.data.toList ≠ []) (h : Pa.is s.data.toList (Pa.rest L n k) = true) :
 Calls Tryz.prog 64 #[.pointer (some ⟨P, 0, none⟩), .string s] w fun e w' => e = .returned (.bool true) ∧ w.grownBy w' (some P) ∧ RS L n tbk tc P (k + 1) false w' := by
 have K := isR_any hp hL s hs
 rw [h] at K
 have K := Lib.hid K
 have hlt := Pa.is_lt hp.le h
 have hfew := hL.few
 have HP := Lib.hid hp
 clear hp hL hs h
 go_enter Tryz.func64, Tryz.ntmps64
 go_wp2_with fail
 refine K.out.mono ?_
 rintro e w1 ⟨rfl, hb1⟩
 have hp := HP.out.below hb1
 have HB := Lib.hid hb1
 clear hb1
 have p1 := cell_of_blkP hp.blk (j := 1) (u := .int .i64 k) rfl
 have f1 := blk_free hp.blk 1
 have HP1 := Lib.hid hp
 clear hp
 go_wp2_with fail
 go_ret
 exact ⟨rfl, gr_trans (gr_below HB.out _) (gr_set _ _ _ _), HP1.out.inc hlt⟩
set_option maxRecDepth 100000 in
set_option maxHeartbeats 8000000 in
theorem accept_no {L : List Lex.Tok} {n tbk tc P k : Nat} {b : Bool} {w : World} (hp : RS L n tbk tc P k b w) (hL : Pa.TkL L n) (s : ByteArray) (hs : s.data.toList ≠ []) (h : (!b && Pa.is s.data.toList (Pa.rest L n k)) = false) :
 Calls Tryz.prog 64 #[.pointer (some ⟨P, 0, none⟩), .string s] w fun e w' => e = .returned (.bool false) ∧ Below w.heap.size w w' := by
 have K := isR_any hp hL s hs
 rw [h] at K
 have K := Lib.hid K
 clear hp hL hs h
 go_enter Tryz.func64, Tryz.ntmps64
 go_wp2_with fail
 refine K.out.mono ?_
 rintro e w1 ⟨rfl, hb1⟩
 have HB := Lib.hid hb1
 clear hb1
 go_wp2_with fail
 go_ret
 exact ⟨rfl, HB.out⟩
set_option maxRecDepth 100000 in
set_option maxHeartbeats 8000000 in
theorem expectR_yes {L : List Lex.Tok} {n tbk tc P k : Nat} {w : World} (hp : RS L n tbk tc P k false w) (hL : Pa.TkL L n) (s : ByteArray) (hs : s.data.toList ≠ []) (h : Pa.is s.data.toList (Pa.rest L n k) = true) :
 Calls Tryz.prog 65 #[.pointer (some ⟨P, 0, none⟩), .string s] w fun e w' => e = .returned (.tuple #[]) ∧ w.grownBy w' (some P) ∧ RS L n tbk tc P (k + 1) false w' := by
 have K := Lib.hid (accept_yes hp hL s hs h)
 clear hp hL hs h
 go_enter Tryz.func65, Tryz.ntmps65
 go_wp2_with fail
 refine K.out.mono ?_
 rintro e w1 ⟨rfl, hb1⟩
 have HB := Lib.hid hb1
 clear hb1
 go_wp2_with fail
 go_end0
 exact ⟨rfl, HB.out⟩
set_option maxRecDepth 100000 in
set_option maxHeartbeats 8000000 in
theorem expectR_no {L : List Lex.Tok} {n tbk tc P k : Nat} {b : Bool} {w : World} (hp : RS L n tbk tc P k b w) (hL : Pa.TkL L n) (s : ByteArray) (hs : s.data.toList ≠ []) (h : (!b && Pa.is s.data.toList (Pa.rest L n k)) = false) :
 Calls Tryz.prog 65 #[.pointer (some ⟨P, 0, none⟩), .string s] w fun e w' => e = .returned (.tuple #[]) ∧ w.grownBy w' (some P) ∧ RS L n tbk tc P k true w' := by
 have K := Lib.hid (accept_no hp hL s hs h)
 have HP := Lib.hid hp
 clear hp hL hs h
 go_enter Tryz.func65, Tryz.ntmps65
 go_wp2_with fail
 refine K.out.mono ?_
 rintro e w1 ⟨rfl, hb1⟩
 have hp := HP.out.below hb1
 have HB := Lib.hid hb1
 clear hb1
 have p2 := cell_of_blkP hp.blk (j := 2) (u := .bool b) rfl
 have f2 := blk_free hp.blk 2
 have HP1 := Lib.hid hp
 clear hp
 go_wp2_with fail
 go_end0
 exact ⟨rfl, gr_trans (gr_below HB.out _) (gr_set _ _ _ _), HP1.out.err⟩
def TokP (L : List Lex.Tok) (n tbk tc P k : Nat) (b : Bool) (t : Lex.Tok) (K : Nat) (w : World) (e : Ending) (w' : World) : Prop := (b = false ∧ t.kind = K ∧ e = .returned (.agg #[.int .i64 t.kind, .string ⟨t.text.toArray⟩, .int .i64 t.val, .int .i64 t.pos]) ∧ w.grownBy w' (some P) ∧ RS L n tbk tc P (k + 1) false w') ∨ ((b = true ∨ ¬ t.kind = K) ∧ e = .returned (.agg #[.int .i64 0, .string ⟨#[]⟩, .int .i64 0, .int .i64 0]) ∧ w.grownBy w' (some P) ∧ RS L n tbk tc P k true w')
set_option maxRecDepth 100000 in
set_option maxHeartbeats 8000000 in
theorem token_any {L : List Lex.Tok} {n tbk tc P k : Nat} {b : Bool} {w : World} (hp : RS L n tbk tc P k b w) (hL : Pa.TkL L n) {t : Lex.Tok} (ht : L[k]? = some t) (K : Nat) (hK : 0 < K) :
 Calls Tryz.prog 66 #[.pointer (some ⟨P, 0, none⟩), .int .i64 K] w (TokP L n tbk tc P k b t K w) := by
 have HLT : Hid (t.kind = K → k < n) := Lib.hid fun e => kind_lt hL hp.le ht (by omega)
 have HT := Lib.hid ht
 clear ht
 obtain ⟨w6, HW, C6⟩ := (Cm.start hL hp).boxR #[.int .i64 0, .string ⟨#[]⟩, .int .i64 0, .int .i64 0] 59
 clear hL hp
 go_enter Tryz.func66, Tryz.ntmps66
 go_upto_region 1 with fail
 rw [← HW.out]
 clear HW
 obtain ⟨w7, HW, C7⟩ := C6.out.drewE
 have y0 := Lib.hid (cell_of_blkP C7.out.ps.blk (j := 0) (u := .slice (some ⟨tbk, 0, none⟩) (n + 1) tc) rfl)
 have y1 := Lib.hid (cell_of_blkP C7.out.ps.blk (j := 1) (u := .int .i64 k) rfl)
 obtain ⟨x2, x3, x4, x5⟩ := C7.out.ps.toks k t HT.out
 have y2 := Lib.hid x2
 have y3 := Lib.hid x3
 have y4 := Lib.hid x4
 have y5 := Lib.hid x5
 clear x2 x3 x4 x5
 have hfew := C7.out.hL.few
 have hle := C7.out.le
 have hcap := C7.out.ps.cap
 have a1 : (0 : Int) ≤ (k : Int) := by omega
 have a2 : (k : Int) < (n : Int) + 1 := by omega
 refine wp_region_held_drew (S := fun W => W.cell? (⟨P, 0, none⟩) = some (.slice (some ⟨tbk, 0, none⟩) (n + 1) tc) ∧ W.cell? (⟨P, 1, none⟩) = some (.int .i64 k) ∧ W.cell? (⟨tbk, k * 4, none⟩) = some (.int .i64 t.kind) ∧ W.cell? (⟨tbk, k * 4 + 1, none⟩) = some (.string ⟨t.text.toArray⟩) ∧ W.cell? (⟨tbk, k * 4 + 2, none⟩) = some (.int .i64 t.val) ∧ W.cell? (⟨tbk, k * 4 + 3, none⟩) = some (.int .i64 t.pos)) (by kernel_rfl) (by rw [← HW.out]; exact ⟨y0.out, y1.out, y2.out, y3.out, y4.out, y5.out⟩) (fun hHeld => ?_)
 rw [← HW.out] at hHeld ⊢
 clear HW C6
 refine rT 0 (some 6) ?_
 try simp only [Act.put, q0, q1, q2]
 refine rT 1 (some 7) ?_
 try simp only [Act.put, q0, q1, q2]
 refine rT 2 (some 8) ?_
 try simp only [Act.put, q0, q1, q2]
 refine rT 3 (some 9) ?_
 try simp only [Act.put, q0, q1, q2]
 refine rT 4 (some 10) ?_
 try simp only [Act.put, q0, q1, q2]
 refine rT 5 (some 11) ?_
 try simp only [Act.put, q0, q1, q2]
 refine rT 6 (some 12) ?_
 try simp only [Act.put, q0, q1, q2]
 refine rT 7 (some 13) ?_
 try simp only [Act.put, q0, q1, q2]
 refine rT 8 (some 14) ?_
 try simp only [Act.put, q0, q1, q2]
 refine rT 9 (some 15) ?_
 try simp only [Act.put, q0, q1, q2]
 obtain ⟨T, w8, HX, HW, hx8, C8⟩ := C7.out.boxE #[.int .i64 0, .string ⟨#[]⟩, .int .i64 0, .int .i64 0] 59
 have HB8 : Hid (Below w7.heap.size w7 w8) := Lib.hid (by rw [HW.out]; exact below_box _ _)
 refine rR1 10 (some 5) (fun K hK => ?_)
 clear hHeld
 go_simp
 refine hK.out _ _ ⟨cell_keep' (below_box w7 _) y0.out, cell_keep' (below_box w7 _) y1.out, cell_keep' (below_box w7 _) y2.out, cell_keep' (below_box w7 _) y3.out, cell_keep' (below_box w7 _) y4.out, cell_keep' (below_box w7 _) y5.out⟩ (fun _ => ?_)
 clear hK K
 try simp only [Act.put, q0, q1, q2]
 rw [← HX.out, ← HW.out]
 clear HX HW C7
 refine rR1 11 none (fun K hK => ?_)
 obtain ⟨l0, c00, f00, c01, f01, c02, f02, c03, f03⟩ := cells4 (C8.out.m.b 0 rfl)
 obtain ⟨w9, HW⟩ : ∃ q, Hid (q = ((((w8.setCell ⟨T, 0, none⟩ (.int .i64 t.kind)).setCell ⟨T, 1, none⟩ (.string ⟨t.text.toArray⟩)).setCell ⟨T, 2, none⟩ (.int .i64 t.val)).setCell ⟨T, 3, none⟩ (.int .i64 t.pos))) := ⟨_, Lib.hid rfl⟩
 have C9 := Lib.hid (C8.out.mm (W' := w9) (C8.out.m.set 0 rfl (by rw [HW.out]; exact gr_trans (gr_trans (gr_trans (gr_set w8 T 0 (.int .i64 t.kind)) (gr_set (w8.setCell ⟨T, 0, none⟩ (.int .i64 t.kind)) T 1 (.string ⟨t.text.toArray⟩))) (gr_set ((w8.setCell ⟨T, 0, none⟩ (.int .i64 t.kind)).setCell ⟨T, 1, none⟩ (.string ⟨t.text.toArray⟩)) T 2 (.int .i64 t.val))) (gr_set (((w8.setCell ⟨T, 0, none⟩ (.int .i64 t.kind)).setCell ⟨T, 1, none⟩ (.string ⟨t.text.toArray⟩)).setCell ⟨T, 2, none⟩ (.int .i64 t.val)) T 3 (.int .i64 t.pos))) (by rw [HW.out]; exact (heap_set (j := 3) (.int .i64 t.pos) (heap_set (j := 2) (.int .i64 t.val) (heap_set (j := 1) (.string ⟨t.text.toArray⟩) (heap_set (j := 0) (.int .i64 t.kind) (C8.out.m.b 0 rfl))))))))
 go_simp
 refine hK.out _ _ ⟨cell_keep' (gr_fresh (gr_new (gr_below HB8.out none) (set4_gr w8 T (.int .i64 t.kind) (.string ⟨t.text.toArray⟩) (.int .i64 t.val) (.int .i64 t.pos)) hx8)) y0.out, cell_keep' (gr_fresh (gr_new (gr_below HB8.out none) (set4_gr w8 T (.int .i64 t.kind) (.string ⟨t.text.toArray⟩) (.int .i64 t.val) (.int .i64 t.pos)) hx8)) y1.out, cell_keep' (gr_fresh (gr_new (gr_below HB8.out none) (set4_gr w8 T (.int .i64 t.kind) (.string ⟨t.text.toArray⟩) (.int .i64 t.val) (.int .i64 t.pos)) hx8)) y2.out, cell_keep' (gr_fresh (gr_new (gr_below HB8.out none) (set4_gr w8 T (.int .i64 t.kind) (.string ⟨t.text.toArray⟩) (.int .i64 t.val) (.int .i64 t.pos)) hx8)) y3.out, cell_keep' (gr_fresh (gr_new (gr_below HB8.out none) (set4_gr w8 T (.int .i64 t.kind) (.string ⟨t.text.toArray⟩) (.int .i64 t.val) (.int .i64 t.pos)) hx8)) y4.out, cell_keep' (gr_fresh (gr_new (gr_below HB8.out none) (set4_gr w8 T (.int .i64 t.kind) (.string ⟨t.text.toArray⟩) (.int .i64 t.val) (.int .i64 t.pos)) hx8)) y5.out⟩ (fun _ => ?_)
 clear hK K
 try simp only [Act.put, q0, q1, q2]
 refine wpAnyH_done (by kernel_rfl) ?_ _
 rw [← HW.out]
 clear HW C8 l0 c00 f00 c01 f01 c02 f02 c03 f03
 have C10 := Lib.hid (C9.out.nrm (bs' := [(T, #[.int .i64 t.kind, .string ⟨t.text.toArray⟩, .int .i64 t.val, .int .i64 t.pos], 59), _]) rfl)
 clear C9
 clear y0 y1 y2 y3 y4 y5 hcap a1 a2 HB8 hx8
 have hplt := C10.out.m.pw
 have oT := (C10.out.m.lt 0 rfl).1
 obtain ⟨l0, c00, f00, c01, f01, c02, f02, c03, f03⟩ := cells4 (C10.out.m.b 0 rfl)
 obtain ⟨l1, c10, f10, c11, f11, c12, f12, c13, f13⟩ := cells4 (C10.out.m.b 1 rfl)
 have g2 := blk_free C10.out.ps.blk 2
 have g1 := blk_free C10.out.ps.blk 1
 have p1 := cell_of_blkP C10.out.ps.blk (j := 1) (u := .int .i64 k) rfl
 cases b with
 | true =>
   have p2 := cell_of_blkP C10.out.ps.blk (j := 2) (u := .bool true) rfl
   go_wp2_with fail
   have D := Lib.hid (C10.out.par (gr_set _ _ _ _) C10.out.ps.err)
   have E := Lib.hid (D.out.m.set 1 rfl (set4_gr _ _ (.int .i64 0) (.string ⟨#[]⟩) (.int .i64 0) (.int .i64 0)) (set4_blk (.int .i64 0) (.string ⟨#[]⟩) (.int .i64 0) (.int .i64 0) (D.out.m.b 1 rfl)))
   refine bodyPost_ret (v := .agg #[.int .i64 0, .string ⟨#[]⟩, .int .i64 0, .int .i64 0]) (results_cell_row Tryz.results66 _ _ w.heap.size _ _ _ _ rfl (E.out.b 1 rfl) Tryz.underlying59 rfl (by kernel_rfl)) rfl ?_
   exact Or.inr ⟨Or.inl rfl, rfl, E.out.gr, E.out.ps⟩
 | false =>
   by_cases hk : t.kind = K
   ·have hlt := HLT.out hk
    subst hk
    have p2 := cell_of_blkP C10.out.ps.blk (j := 2) (u := .bool false) rfl
    go_wp2_with fail
    have D := Lib.hid (C10.out.par (gr_set _ _ _ _) (C10.out.ps.inc hlt))
    have E := Lib.hid (D.out.m.set 1 rfl (set4_gr _ _ (.int .i64 t.kind) (.string ⟨t.text.toArray⟩) (.int .i64 t.val) (.int .i64 t.pos)) (set4_blk (.int .i64 t.kind) (.string ⟨t.text.toArray⟩) (.int .i64 t.val) (.int .i64 t.pos) (D.out.m.b 1 rfl)))
    refine bodyPost_ret (v := .agg #[.int .i64 t.kind, .string ⟨t.text.toArray⟩, .int .i64 t.val, .int .i64 t.pos]) (results_cell_row Tryz.results66 _ _ w.heap.size _ _ _ _ rfl (E.out.b 1 rfl) Tryz.underlying59 rfl (by kernel_rfl)) rfl ?_
    exact Or.inl ⟨rfl, rfl, rfl, E.out.gr, E.out.ps⟩
   ·have hk2 : ¬ (t.kind : Int) = (K : Int) := by omega
    have hk3 : ((t.kind : Int) == (K : Int)) = false := beq_eq_false_iff_ne.2 hk2
    have HK := Lib.hid hk
    clear hk
    have p2 := cell_of_blkP C10.out.ps.blk (j := 2) (u := .bool false) rfl
    go_wp2_with fail
    have D := Lib.hid (C10.out.par (gr_set _ _ _ _) C10.out.ps.err)
    have E := Lib.hid (D.out.m.set 1 rfl (set4_gr _ _ (.int .i64 0) (.string ⟨#[]⟩) (.int .i64 0) (.int .i64 0)) (set4_blk (.int .i64 0) (.string ⟨#[]⟩) (.int .i64 0) (.int .i64 0) (D.out.m.b 1 rfl)))
    refine bodyPost_ret (v := .agg #[.int .i64 0, .string ⟨#[]⟩, .int .i64 0, .int .i64 0]) (results_cell_row Tryz.results66 _ _ w.heap.size _ _ _ _ rfl (E.out.b 1 rfl) Tryz.underlying59 rfl (by kernel_rfl)) rfl ?_
    exact Or.inr ⟨Or.inr HK.out, rfl, E.out.gr, E.out.ps⟩
set_option maxRecDepth 100000 in
set_option maxHeartbeats 8000000 in
theorem unaryR_any (kd : Int) (x : Tr.E) (a : Value) (w : World) :
 Calls Tryz.prog 73 #[.int .i64 kd, .agg #[.int .i64 x.kind, .int .i64 x.op, .int .i64 x.int, .string x.name, .bool x.at_, a]] w fun e w' => ∃ g, e = .returned (.agg #[.int .i64 kd, .int .i64 0, .int .i64 0, .string ⟨#[]⟩, .bool false, .slice (some ⟨g, 0, none⟩) 1 1]) ∧ w.heap.size ≤ g ∧ w'.heap[g]? = some (.cells #[.int .i64 x.kind, .int .i64 x.op, .int .i64 x.int, .string x.name, .bool x.at_, a] 33 (0, 0)) ∧ Below w.heap.size w w' := by
 go_enter Tryz.func73, Tryz.ntmps73
 go_wp2
 have h3 : ((((w.alloc (.cells #[.int .i64 x.kind, .int .i64 x.op, .int .i64 x.int, .string x.name, .bool x.at_, a] 33))).alloc (.cells #[.int .i64 kd, .int .i64 0, .int .i64 0, .string ⟨#[]⟩, .bool false, .slice (some ⟨w.heap.size + 1 + 1, 0, none⟩) 1 1] 33)).alloc (.cells #[.int .i64 x.kind, .int .i64 x.op, .int .i64 x.int, .string x.name, .bool x.at_, a] 33)).heap[w.heap.size + 1]? = some (.cells #[.int .i64 kd, .int .i64 0, .int .i64 0, .string ⟨#[]⟩, .bool false, .slice (some ⟨w.heap.size + 1 + 1, 0, none⟩) 1 1] 33 (0, 0)) := (Below.heap_alloc _ _ _ (by simp only [World.size_alloc]; omega)).trans (new_at (by simp))
 refine bodyPost_ret (v := .agg #[.int .i64 kd, .int .i64 0, .int .i64 0, .string ⟨#[]⟩, .bool false, .slice (some ⟨w.heap.size + 1 + 1, 0, none⟩) 1 1]) (results_cell_row Tryz.results73 _ _ (w.heap.size + 1) _ _ _ _ rfl h3 Tryz.underlying33 rfl (by kernel_rfl)) rfl ⟨_, rfl, by omega, new_at (by simp), ?_⟩
 exact ((below_box w _).alloc (by simp) _).alloc (by simp <;> omega) _
set_option maxRecDepth 100000 in
set_option maxHeartbeats 8000000 in
theorem binaryR_any (op : Int) (x y : Tr.E) (a b : Value) (w : World) :
 Calls Tryz.prog 75 #[.int .i64 op, .agg #[.int .i64 x.kind, .int .i64 x.op, .int .i64 x.int, .string x.name, .bool x.at_, a], .agg #[.int .i64 y.kind, .int .i64 y.op, .int .i64 y.int, .string y.name, .bool y.at_, b]] w fun e w' => ∃ g, e = .returned (.agg #[.int .i64 10, .int .i64 op, .int .i64 0, .string ⟨#[]⟩, .bool false, .slice (some ⟨g, 0, none⟩) 2 2]) ∧ w.heap.size ≤ g ∧ w'.heap[g]? = some (.cells #[.int .i64 x.kind, .int .i64 x.op, .int .i64 x.int, .string x.name, .bool x.at_, a, .int .i64 y.kind, .int .i64 y.op, .int .i64 y.int, .string y.name, .bool y.at_, b] 33 (0, 0)) ∧ Below w.heap.size w w' := by
 go_enter Tryz.func75, Tryz.ntmps75
 go_wp2
 have h3 : ((((w.alloc (.cells #[.int .i64 x.kind, .int .i64 x.op, .int .i64 x.int, .string x.name, .bool x.at_, a] 33)).alloc (.cells #[.int .i64 y.kind, .int .i64 y.op, .int .i64 y.int, .string y.name, .bool y.at_, b] 33)).alloc (.cells #[.int .i64 10, .int .i64 op, .int .i64 0, .string ⟨#[]⟩, .bool false, .slice (some ⟨w.heap.size + 1 + 1 + 1, 0, none⟩) 2 2] 33)).alloc (.cells #[.int .i64 x.kind, .int .i64 x.op, .int .i64 x.int, .string x.name, .bool x.at_, a, .int .i64 y.kind, .int .i64 y.op, .int .i64 y.int, .string y.name, .bool y.at_, b] 33)).heap[w.heap.size + 1 + 1]? = some (.cells #[.int .i64 10, .int .i64 op, .int .i64 0, .string ⟨#[]⟩, .bool false, .slice (some ⟨w.heap.size + 1 + 1 + 1, 0, none⟩) 2 2] 33 (0, 0)) := (Below.heap_alloc _ _ _ (by simp only [World.size_alloc]; omega)).trans (new_at (by simp))
 refine bodyPost_ret (v := .agg #[.int .i64 10, .int .i64 op, .int .i64 0, .string ⟨#[]⟩, .bool false, .slice (some ⟨w.heap.size + 1 + 1 + 1, 0, none⟩) 2 2]) (results_cell_row Tryz.results75 _ _ (w.heap.size + 1 + 1) _ _ _ _ rfl h3 Tryz.underlying33 rfl (by kernel_rfl)) rfl ⟨_, rfl, by omega, new_at (by simp), ?_⟩
 exact (((below_box w _).alloc (by simp) _).alloc (by simp <;> omega) _).alloc (by simp <;> omega) _
end Go.Proofs.YtdckddkalgnlpaaGreatDoor
