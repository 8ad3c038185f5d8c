/-
  The reference's renameExpr, walked.
-/
import Derived.Test.YtdafdbjdnebnfaaGreatDoorCkRen
import Derived.Test.YtdafdbjdnebnfaaGreatDoorCkExpr
import Derived.Test.YtdafdbjdnebnfaaGreatDoorCkState
import Derived.Deep.LoopGhost
namespace Go.Proofs.YtdafdbjdnebnfaaGreatDoor
open Go.RowKit Go.Maps

mutual
/-- no list of arguments is long -/
def thinE : Tr.E → Prop
  | .mk _ _ _ _ _ l => l.length ≤ 1000000 ∧ thinEs l
def thinEs : List Tr.E → Prop
  | [] => True
  | e :: r => thinE e ∧ thinEs r
end
theorem thinEs_get : ∀ {l : List Tr.E} {j : Nat} {e : Tr.E}, thinEs l → l[j]? = some e → thinE e
  | [], j, e, _, h => by simp at h
  | x :: r, 0, e, h, hj => by cases hj; rw [thinEs] at h; exact h.1
  | x :: r, j + 1, e, h, hj => by rw [thinEs] at h; exact thinEs_get (l := r) (j := j) h.2 (by simpa using hj)
theorem exprInfo : (Tryz.prog.info? 78).map (fun i => (i.zero, i.size, i.bytes)) = some (some (.agg #[.int .i64 0, .int .i64 0, .int .i64 0, .string ⟨#[]⟩, .bool false, .slice none 0 0]), 6, 72) := by kernel_rfl
theorem bdE_ren {f t : ByteArray} (ht : t.size ≤ maxLen) {e : Tr.E} (h : BdE e) : BdE (Ck.renE f t e) := by
  obtain ⟨k, o, i, nm, a, l⟩ := e
  rw [Ck.renE]
  refine ⟨h.kind, h.op, h.int, ?_⟩
  show (if k = 3 ∧ nm = f then t else nm).size ≤ maxLen
  split
  · exact ht
  · exact h.name
theorem renEs_snoc (f t : ByteArray) (l : List Tr.E) (x : Tr.E) : Ck.renEs f t (l ++ [x]) = Ck.renEs f t l ++ [Ck.renE f t x] := by
  induction l with
  | nil => rw [List.nil_append, Ck.renEs, Ck.renEs, Ck.renEs]; rfl
  | cons y r ih => rw [List.cons_append, Ck.renEs, Ck.renEs, ih]; rfl
theorem renE_args (f t : ByteArray) (e : Tr.E) : (Ck.renE f t e).args = Ck.renEs f t e.args := by cases e; rw [Ck.renE]; rfl
/-- a row of expressions under way, its subtrees in other blocks -/
structure RowE (w : World) (qv : Value) (tr : List ET) (W : World) : Prop where
  own : W.ownsRow w.heap.size 78 6 qv tr.length (flatV eCells tr)
  sub : ∀ x ∈ tr, ReadEf W (fun b => w.heap.size ≤ b ∧ some b ≠ qv.ownBlock) x
  below : Below w.heap.size w W
section
variable {w : World} {qv : Value} {tr : List ET} {W W' : World}
theorem RowE.keep (h : RowE w qv tr W) (hb : Below W.heap.size W W') : RowE w qv tr W' :=
  ⟨own_below h.own hb, fun x hx => ⟨(h.sub x hx).1, (h.sub x hx).2.move (fun b _ hlt => hb.block b hlt) (fun _ hb _ => hb)⟩, below_next h.below hb⟩
theorem RowE.app (h : RowE w qv tr W) {x : ET} {v' : Value} (hx : ReadEf W (fun b => w.heap.size ≤ b ∧ some b ≠ qv.ownBlock) x) (ho : W'.ownsRow w.heap.size 78 6 v' (tr ++ [x]).length (flatV eCells (tr ++ [x]))) (hg : W.grownBy W' qv.ownBlock) (hf : v'.ownBlock = qv.ownBlock ∨ v'.ownBlock = some W.heap.size) : RowE w v' (tr ++ [x]) W' := by
  refine ⟨ho, fun y hy => ?_, h.below.grown hg h.below.size (fun q hq => (own_ge h.own hq).1)⟩
  have hy2 : ReadEf W (fun b => w.heap.size ≤ b ∧ some b ≠ qv.ownBlock) y := by
    rcases List.mem_append.1 hy with hy | hy
    · exact h.sub y hy
    · obtain rfl := List.mem_singleton.1 hy; exact hx
  refine ⟨hy2.1, hy2.2.move (fun b hb hlt => hg.block b hlt hb.2) (fun b hb hlt => ⟨hb.1, ?_⟩)⟩
  rcases hf with e | e
  · rw [e]; exact hb.2
  · rw [e]; intro e2; cases e2; omega
end
/-- blocks behind the loop: the box's cells, the result's cells -/
structure R10 (w wr : World) (cs : Array Value) (W : World) : Prop where
  bx : W.heap[w.heap.size]? = some (.cells cs 78 (0, 0))
  t6 : W.heap[w.heap.size + 1]? = some (.cells #[.int .i64 0, .int .i64 0, .int .i64 0, .string ⟨#[]⟩, .bool false, .slice none 0 0] 78 (0, 0))
  below : Below w.heap.size w W
  rest : ∀ b, w.heap.size + 2 ≤ b → W.heap[b]? = wr.heap[b]?
theorem R10.free {w wr W : World} {cs : Array Value} (h : R10 w wr cs W) (q : Nat) : W.frozen? ⟨w.heap.size + 1, q, none⟩ = false := by have := h.t6; simp [World.frozen?, this]
theorem set_other (W : World) (b j k : Nat) (u : Value) (h : k ≠ b) : (W.setCell ⟨b, j, none⟩ u).heap[k]? = W.heap[k]? := Below.heap_setCell W _ u k h
theorem R10.set {w wr W : World} {cs : Array Value} (h : R10 w wr cs W) (i : Nat) (u : Value) : R10 w wr (cs.setIfInBounds i u) (W.setCell ⟨w.heap.size, i, none⟩ u) :=
  ⟨heap_set u h.bx, (set_other W _ i _ u (by omega)).trans h.t6, h.below.grown (grown_setCell W _ i u) h.below.size (fun q hq => by cases hq; exact Nat.le_refl _), fun b hb => (set_other W _ i b u (by omega)).trans (h.rest b hb)⟩
theorem R10.six {w wr W : World} {cs : Array Value} (h : R10 w wr cs W) (v0 v1 v2 v3 v4 v5 : Value) :
    ((((((W.setCell ⟨w.heap.size + 1, 0, none⟩ v0).setCell ⟨w.heap.size + 1, 1, none⟩ v1).setCell ⟨w.heap.size + 1, 2, none⟩ v2).setCell ⟨w.heap.size + 1, 3, none⟩ v3).setCell ⟨w.heap.size + 1, 4, none⟩ v4).setCell ⟨w.heap.size + 1, 5, none⟩ v5).heap[w.heap.size + 1]? = some (.cells #[v0, v1, v2, v3, v4, v5] 78 (0, 0)) ∧
    Below w.heap.size w ((((((W.setCell ⟨w.heap.size + 1, 0, none⟩ v0).setCell ⟨w.heap.size + 1, 1, none⟩ v1).setCell ⟨w.heap.size + 1, 2, none⟩ v2).setCell ⟨w.heap.size + 1, 3, none⟩ v3).setCell ⟨w.heap.size + 1, 4, none⟩ v4).setCell ⟨w.heap.size + 1, 5, none⟩ v5) ∧
    ∀ b, w.heap.size + 2 ≤ b → ((((((W.setCell ⟨w.heap.size + 1, 0, none⟩ v0).setCell ⟨w.heap.size + 1, 1, none⟩ v1).setCell ⟨w.heap.size + 1, 2, none⟩ v2).setCell ⟨w.heap.size + 1, 3, none⟩ v3).setCell ⟨w.heap.size + 1, 4, none⟩ v4).setCell ⟨w.heap.size + 1, 5, none⟩ v5).heap[b]? = wr.heap[b]? := by
  have st : ∀ (X : World) (i : Nat) (u : Value), Below w.heap.size w X → Below w.heap.size w (X.setCell ⟨w.heap.size + 1, i, none⟩ u) := fun X i u hb => hb.grown (grown_setCell X _ i u) hb.size (fun q hq => by cases hq; omega)
  refine ⟨?_, st _ _ _ (st _ _ _ (st _ _ _ (st _ _ _ (st _ _ _ (st _ _ _ h.below))))), fun b hb => ?_⟩
  · have h1 := heap_set (j := 5) v5 (heap_set (j := 4) v4 (heap_set (j := 3) v3 (heap_set (j := 2) v2 (heap_set (j := 1) v1 (heap_set (j := 0) v0 h.t6)))))
    simpa using h1
  · rw [set_other _ _ _ _ _ (by omega), set_other _ _ _ _ _ (by omega), set_other _ _ _ _ _ (by omega), set_other _ _ _ _ _ (by omega), set_other _ _ _ _ _ (by omega), set_other _ _ _ _ _ (by omega)]
    exact h.rest b hb

/-- what renameExpr hands back -/
def RenPost (f t : ByteArray) (e : Tr.E) (w : World) (r : Ending) (w' : World) : Prop :=
  ∃ a', r = .returned (exprV (Ck.renE f t e) a') ∧ SlEf w' (fun b => w.heap.size ≤ b) a' (Ck.renEs f t e.args) ∧ Below w.heap.size w w'

set_option maxRecDepth 100000 in
set_option maxHeartbeats 20000000 in
theorem renE_any (f t : ByteArray) (ht : t.size ≤ maxLen) : ∀ (d : Nat) (e : Tr.E) (a : Value) (w : World), e.deep ≤ d → thinE e → BdE e → SlE w a e.args →
    Calls Tryz.prog 44 #[exprV e a, .string f, .string t] w (RenPost f t e w) := by
  intro d
  induction d with
  | zero => intro e a w hd; have := e.deep_pos; omega
  | succ d ih =>
    intro e a w hd hth hbd hS
    obtain ⟨i0, hi0, hz0, hz1, hz2⟩ := info_parts exprInfo
    have hbdr := bdE_ren (f := f) ht hbd
    obtain ⟨k, o, i, nm, at_, l⟩ := e
    have hS' : SlE w a l := hS
    obtain ⟨p, c5, rfl, hcap⟩ := hS'.form
    rw [thinE] at hth
    obtain ⟨hll, hths⟩ := hth
    obtain ⟨N, hN⟩ : ∃ N, l.length = N := ⟨_, rfl⟩
    rw [hN] at hS' hll
    unfold exprV
    simp only [Tr.E.kind, Tr.E.op, Tr.E.int, Tr.E.name, Tr.E.at_]
    rw [hN]
    have hb1 := below_box w (.cells #[.int .i64 k, .int .i64 o, .int .i64 i, .string nm, .bool at_, .slice p N c5] 78)
    obtain ⟨w1, hw1⟩ : ∃ q, q = w.alloc (.cells #[.int .i64 k, .int .i64 o, .int .i64 i, .string nm, .bool at_, .slice p N c5] 78) := ⟨_, rfl⟩
    have hbx := (MapKept.heap_alloc w (.cells #[.int .i64 k, .int .i64 o, .int .i64 i, .string nm, .bool at_, .slice p N c5] 78)).1
    have hs1 : w1.heap.size = w.heap.size + 1 := by rw [hw1]; exact World.size_alloc _ _
    rw [← hw1] at hb1 hbx
    obtain ⟨w2, hw2⟩ : ∃ q, q = w1.alloc (.cells #[.int .i64 0, .int .i64 0, .int .i64 0, .string ⟨#[]⟩, .bool false, .slice none 0 0] 78) := ⟨_, rfl⟩
    have hb2 := below_box w1 (.cells #[.int .i64 0, .int .i64 0, .int .i64 0, .string ⟨#[]⟩, .bool false, .slice none 0 0] 78)
    have ht6 := (MapKept.heap_alloc w1 (.cells #[.int .i64 0, .int .i64 0, .int .i64 0, .string ⟨#[]⟩, .bool false, .slice none 0 0] 78)).1
    have hs2 : w2.heap.size = w.heap.size + 2 := by rw [hw2]; rw [World.size_alloc, hs1]
    rw [← hw2] at hb2 ht6
    rw [hs1] at ht6
    have hbx2 := (hb2.block w.heap.size (by omega)).trans hbx
    obtain ⟨w3, hw3⟩ : ∃ q, q = w2.alloc (.cells #[] 78) := ⟨_, rfl⟩
    have hr3 : RowE w2 (.slice (some ⟨w2.heap.size, 0, none⟩) 0 0) [] w3 := by
      rw [hw3]
      exact ⟨own_empty w2 78 6, fun x hx => absurd hx (by simp), below_box _ _⟩
    rw [hs2] at hr3
    have HR3 := Lib.hid hr3
    have HBX := Lib.hid hbx2
    have HT6 := Lib.hid ht6
    have HB2 := Lib.hid (below_next hb1 hb2)
    have HS := Lib.hid (hS'.keep (below_next hb1 hb2))
    have HN := Lib.hid hN
    have HD := Lib.hid hd
    have HIH := Lib.hid ih
    have HTH := Lib.hid hths
    have HS2 := Lib.hid hs2
    have HBDR := Lib.hid hbdr
    have HW3 : Hid (w3 = ((w.alloc (.cells #[.int .i64 k, .int .i64 o, .int .i64 i, .string nm, .bool at_, .slice p N c5] 78)).alloc (.cells #[.int .i64 0, .int .i64 0, .int .i64 0, .string ⟨#[]⟩, .bool false, .slice none 0 0] 78)).alloc (.cells #[] 78)) := by show _ = _; rw [hw3, hw2, hw1]
    clear hS hS' hN hd ih hths hbd hbdr hb1 hb2 hbx hbx2 ht6 hr3 hw1 hw2 hw3 hs1 hs2 hcap
    go_enter Tryz.func44, Tryz.ntmps44
    go_wp2_with fail
    rw [← HW3.out]
    clear HW3
    go_loopg [7, 8] N (fun g s7 s8 wr => ∃ j : Nat, s8 = .int .i64 j ∧ j ≤ N ∧ g = N - j ∧ ∃ tr : List ET, Hid (tr.map Prod.fst = Ck.renEs f t (l.take j)) ∧ Hid (RowE w2 s7 tr wr))
    case atStart => exact ⟨0, rfl, Nat.zero_le _, rfl, [], by show _ = _; rw [List.take_zero, Ck.renEs]; rfl, HR3⟩
    case round =>
      obtain ⟨j, rfl, hj, rfl, tr, HTR, HST⟩ := hrel
      clear HR3
      have htl : tr.length = j := by
        have := congrArg List.length HTR.out
        rw [List.length_map, Ck.renEs_len, List.length_take, HN.out] at this
        omega
      have b5 := cell_keep' HST.out.below (cell_of_blk HBX.out (j := 5) (u := .slice p N c5) rfl)
      obtain ⟨pq, cq, rfl⟩ := own_form HST.out.own
      rw [htl] at HST ⊢
      have HTL := Lib.hid htl
      clear htl
      by_cases hlt : j < N
      · obtain ⟨x, hx⟩ : ∃ x, l[j]? = some x := ⟨_, List.getElem?_eq_getElem (by rw [HN.out]; exact hlt)⟩
        obtain ⟨b, oo, aa, rfl, hblt, hc, hbdx, hsl⟩ := (HS.out.keep HST.out.below).get hx
        obtain ⟨x0, x1, x2, x3, x4, x5⟩ := hc
        have hcall := HIH.out x aa wr (Tr.E.deep_args HD.out (e := .mk k o i nm at_ l) hx) (thinEs_get HTH.out hx) hbdx hsl
        have hbdy := bdE_ren (f := f) ht hbdx
        obtain ⟨pa0, ca0, rfl, _⟩ := hsl.form
        obtain ⟨AX, hAX⟩ : ∃ N, x.args.length = N := ⟨_, rfl⟩
        rw [hAX] at hcall x5
        unfold RenPost at hcall
        rw [← renE_args] at hcall
        have hnx : Hid (Ck.renEs f t (l.take (j + 1)) = Ck.renEs f t (l.take j) ++ [Ck.renE f t x]) := by show _ = _; rw [take_get hx, renEs_snoc]
        obtain ⟨y, hy⟩ : ∃ q, Ck.renE f t x = q := ⟨_, rfl⟩
        rw [hy] at hcall hbdy hnx
        unfold exprV at hcall
        have HCALL := Lib.hid hcall
        have HBDY := Lib.hid hbdy
        have b3j : (j : Int) < (N : Int) := by omega
        have hbelow := HST.out.below.size
        clear hx hbdx hbdy hsl hAX hcall hy
        go_wp2_with fail
        refine HCALL.out.mono ?_
        rintro e w4 ⟨a', rfl, hsa, hb4⟩
        obtain ⟨pa, ca, rfl, _⟩ := hsa.to.form
        obtain ⟨AN, hAN⟩ : ∃ N, y.args.length = N := ⟨_, rfl⟩
        rw [hAN] at hsa ⊢
        have hbx5 := below_box w4 (.cells #[.int .i64 y.kind, .int .i64 y.op, .int .i64 y.int, .string y.name, .bool y.at_, .slice pa AN ca] 78)
        have HR5 := Lib.hid ((HST.out.keep hb4).keep hbx5)
        have hrx : ReadEf w4 (fun b => w2.heap.size ≤ b ∧ some b ≠ Value.ownBlock (.slice pq j cq)) (y, .slice pa AN ca) := by
          refine ⟨HBDY.out, hsa.move (fun _ _ _ => rfl) (fun b hb _ => ⟨by omega, fun e => ?_⟩)⟩
          have := (HST.out.own.lt b e.symm).2
          omega
        have HRX : Hid (ReadEf (w4.alloc (.cells #[.int .i64 y.kind, .int .i64 y.op, .int .i64 y.int, .string y.name, .bool y.at_, .slice pa AN ca] 78)) (fun b => w2.heap.size ≤ b ∧ some b ≠ Value.ownBlock (.slice pq j cq)) (y, .slice pa AN ca)) := Lib.hid ⟨hrx.1, hrx.2.move (fun b _ hlt => hbx5.block b hlt) (fun _ hb _ => hb)⟩
        have HNW : Hid (∀ q u, (eCells (y, .slice pa AN ca))[q]? = some u → (w4.alloc (.cells #[.int .i64 y.kind, .int .i64 y.op, .int .i64 y.int, .string y.name, .bool y.at_, .slice pa AN ca] 78)).cell? ((⟨w4.heap.size, 0, none⟩ : Addr).add q) = some u) := news_cells (cs := #[.int .i64 y.kind, .int .i64 y.op, .int .i64 y.int, .string y.name, .bool y.at_, .slice pa AN ca]) rfl (by simp)
        have HLB := Lib.hid (below_next HST.out.below (below_next hb4 hbx5))
        clear hsa hb4 hAN hbx5 hrx x0 x1 x2 x3 x4 x5 b5
        go_wp2_with (at_builtin; refine wpList_append_fresh _ rfl _ _ 73 rfl w2.heap.size 78 i0 (.agg #[.int .i64 0, .int .i64 0, .int .i64 0, .string ⟨#[]⟩, .bool false, .slice none 0 0]) 6 72 Tryz.underlying73 hi0 hz0 hz1 hz2 rfl (by decide) _ _ _ rfl HR5.out.own ⟨w4.heap.size, 0, none⟩ 1 1 (eCells (y, .slice pa AN ca)) (by decide) rfl rfl HNW.out (eCells_one HRX.out _ (List.mem_singleton.2 rfl)) (by rw [HTL.out]; unfold maxLen; omega) (by rw [HTL.out]; omega) HLB.out.size ?_; intro v7 w7 ho7 hg7 hf7)
        go_roundg (N - (j + 1))
        case measure => omega
        case rel =>
          refine ⟨j + 1, by go_num, by omega, rfl, tr ++ [(y, .slice pa AN ca)], by show _ = _; rw [List.map_append, HTR.out, hnx.out]; rfl, Lib.hid (HR5.out.app HRX.out ?_ hg7 hf7)⟩
          rw [List.length_append, flatV_append, flatV_cons, flatV_nil, List.append_nil]
          exact ho7
      · obtain rfl : j = N := by omega
        have hbx := (HST.out.below.block w.heap.size (lt_of_block HBX.out)).trans HBX.out
        have ht6 := (HST.out.below.block (w.heap.size + 1) (lt_of_block HT6.out)).trans HT6.out
        have b0 := cell_of_blk hbx (j := 0) (u := .int .i64 k) rfl
        have b3 := cell_of_blk hbx (j := 3) (u := .string nm) rfl
        have g3 : wr.frozen? ⟨w.heap.size, 3, none⟩ = false := by simp [World.frozen?, hbx]
        have g5 : wr.frozen? ⟨w.heap.size, 5, none⟩ = false := by simp [World.frozen?, hbx]
        have HBXW := Lib.hid hbx
        have HT6W := Lib.hid ht6
        clear hbx ht6
        have HR0 : Hid (R10 w wr #[.int .i64 k, .int .i64 o, .int .i64 i, .string nm, .bool at_, .slice p j c5] wr) := Lib.hid ⟨HBXW.out, HT6W.out, HB2.out.trans (HST.out.below.mono (by rw [HS2.out]; omega)), fun _ _ => rfl⟩
        clear HBXW HT6W
        by_cases h0 : j = 0
        · subst h0
          by_cases h3 : k = 3
          · subst h3
            cases hnm : decide (nm = f)
            · have hq : (nm.toList == f.toList) = false := by rw [bytes_beq, hnm]
              have hne := Lib.hid (of_decide_eq_false hnm)
              clear hnm
              go_upto_region 10 with fail
              have HH8 := HR0
              clear b0 b3 b5 g3 g5
              have e0 : wr.cell? ⟨w.heap.size, 0, none⟩ = some (.int .i64 3) := cell_of_blk HH8.out.bx rfl
              have e1 : wr.cell? ⟨w.heap.size, 1, none⟩ = some (.int .i64 o) := cell_of_blk HH8.out.bx rfl
              have e2 : wr.cell? ⟨w.heap.size, 2, none⟩ = some (.int .i64 i) := cell_of_blk HH8.out.bx rfl
              have e3 : wr.cell? ⟨w.heap.size, 3, none⟩ = some (.string nm) := cell_of_blk HH8.out.bx rfl
              have e4 : wr.cell? ⟨w.heap.size, 4, none⟩ = some (.bool at_) := cell_of_blk HH8.out.bx rfl
              have e5 : wr.cell? ⟨w.heap.size, 5, none⟩ = some (.slice p 0 c5) := cell_of_blk HH8.out.bx rfl
              have z0 := cell_of_blk HH8.out.t6 (j := 0) rfl
              have y0 := HH8.out.free 0
              have z1 := cell_of_blk HH8.out.t6 (j := 1) rfl
              have y1 := HH8.out.free 1
              have z2 := cell_of_blk HH8.out.t6 (j := 2) rfl
              have y2 := HH8.out.free 2
              have z3 := cell_of_blk HH8.out.t6 (j := 3) rfl
              have y3 := HH8.out.free 3
              have z4 := cell_of_blk HH8.out.t6 (j := 4) rfl
              have y4 := HH8.out.free 4
              have z5 := cell_of_blk HH8.out.t6 (j := 5) rfl
              have y5 := HH8.out.free 5
              go_wp2_with fail
              obtain ⟨w9, e9, hh9, hb9, hk9⟩ : ∃ q, q = ((((((wr.setCell ⟨w.heap.size + 1, 0, none⟩ (.int .i64 3)).setCell ⟨w.heap.size + 1, 1, none⟩ (.int .i64 o)).setCell ⟨w.heap.size + 1, 2, none⟩ (.int .i64 i)).setCell ⟨w.heap.size + 1, 3, none⟩ (.string nm)).setCell ⟨w.heap.size + 1, 4, none⟩ (.bool at_)).setCell ⟨w.heap.size + 1, 5, none⟩ (.slice p 0 c5)) ∧ q.heap[w.heap.size + 1]? = some (.cells #[.int .i64 3, .int .i64 o, .int .i64 i, .string nm, .bool at_, .slice p 0 c5] 78 (0, 0)) ∧ Below w.heap.size w q ∧ ∀ b, w.heap.size + 2 ≤ b → q.heap[b]? = wr.heap[b]? := ⟨_, rfl, HH8.out.six (.int .i64 3) (.int .i64 o) (.int .i64 i) (.string nm) (.bool at_) (.slice p 0 c5)⟩
              rw [← e9]
              clear e9 e0 e1 e2 e3 e4 e5 z0 z1 z2 z3 z4 z5 y0 y1 y2 y3 y4 y5
              have q0 := cell_of_blk hh9 (j := 0) rfl
              have q1 := cell_of_blk hh9 (j := 1) rfl
              have q2 := cell_of_blk hh9 (j := 2) rfl
              have q3 := cell_of_blk hh9 (j := 3) rfl
              have q4 := cell_of_blk hh9 (j := 4) rfl
              have q5 := cell_of_blk hh9 (j := 5) rfl
              refine bodyPost_ret (v := .agg #[.int .i64 3, .int .i64 o, .int .i64 i, .string nm, .bool at_, .slice p 0 c5]) (by simp [results, Tryz.results44, go_sem, q0, q1, q2, q3, q4, q5]) rfl ⟨.slice p 0 c5, congrArg Ending.returned ?_, ?_, hb9⟩
              · unfold exprV; rw [Ck.renE]; simp only [Tr.E.kind, Tr.E.op, Tr.E.int, Tr.E.name, Tr.E.at_]; rw [if_neg (fun h => hne.out h.2)]
              · have hl0 : l = [] := List.eq_nil_of_length_eq_zero HN.out
                show SlEf _ _ _ (Ck.renEs f t l)
                rw [hl0, Ck.renEs]
                exact .nil _ _
            · have hq : (nm.toList == f.toList) = true := by rw [bytes_beq, hnm]
              have heq := Lib.hid (of_decide_eq_true hnm)
              clear hnm
              have HRb := Lib.hid (HR0.out.set 3 (.string t))
              go_upto_region 10 with fail
              obtain ⟨w8, hw8⟩ : ∃ q, q = wr.setCell ⟨w.heap.size, 3, none⟩ (.string t) := ⟨_, rfl⟩
              have H8 := HRb.out
              rw [← hw8] at H8
              have HW8 := Lib.hid hw8
              clear hw8 b0 b3 b5 g3 g5
              rw [← HW8.out]
              clear HW8
              have HH8 := Lib.hid H8
              clear H8
              have e0 : w8.cell? ⟨w.heap.size, 0, none⟩ = some (.int .i64 3) := cell_of_blk HH8.out.bx rfl
              have e1 : w8.cell? ⟨w.heap.size, 1, none⟩ = some (.int .i64 o) := cell_of_blk HH8.out.bx rfl
              have e2 : w8.cell? ⟨w.heap.size, 2, none⟩ = some (.int .i64 i) := cell_of_blk HH8.out.bx rfl
              have e3 : w8.cell? ⟨w.heap.size, 3, none⟩ = some (.string t) := cell_of_blk HH8.out.bx rfl
              have e4 : w8.cell? ⟨w.heap.size, 4, none⟩ = some (.bool at_) := cell_of_blk HH8.out.bx rfl
              have e5 : w8.cell? ⟨w.heap.size, 5, none⟩ = some (.slice p 0 c5) := cell_of_blk HH8.out.bx rfl
              have z0 := cell_of_blk HH8.out.t6 (j := 0) rfl
              have y0 := HH8.out.free 0
              have z1 := cell_of_blk HH8.out.t6 (j := 1) rfl
              have y1 := HH8.out.free 1
              have z2 := cell_of_blk HH8.out.t6 (j := 2) rfl
              have y2 := HH8.out.free 2
              have z3 := cell_of_blk HH8.out.t6 (j := 3) rfl
              have y3 := HH8.out.free 3
              have z4 := cell_of_blk HH8.out.t6 (j := 4) rfl
              have y4 := HH8.out.free 4
              have z5 := cell_of_blk HH8.out.t6 (j := 5) rfl
              have y5 := HH8.out.free 5
              go_wp2_with fail
              obtain ⟨w9, e9, hh9, hb9, hk9⟩ : ∃ q, q = ((((((w8.setCell ⟨w.heap.size + 1, 0, none⟩ (.int .i64 3)).setCell ⟨w.heap.size + 1, 1, none⟩ (.int .i64 o)).setCell ⟨w.heap.size + 1, 2, none⟩ (.int .i64 i)).setCell ⟨w.heap.size + 1, 3, none⟩ (.string t)).setCell ⟨w.heap.size + 1, 4, none⟩ (.bool at_)).setCell ⟨w.heap.size + 1, 5, none⟩ (.slice p 0 c5)) ∧ q.heap[w.heap.size + 1]? = some (.cells #[.int .i64 3, .int .i64 o, .int .i64 i, .string t, .bool at_, .slice p 0 c5] 78 (0, 0)) ∧ Below w.heap.size w q ∧ ∀ b, w.heap.size + 2 ≤ b → q.heap[b]? = wr.heap[b]? := ⟨_, rfl, HH8.out.six (.int .i64 3) (.int .i64 o) (.int .i64 i) (.string t) (.bool at_) (.slice p 0 c5)⟩
              rw [← e9]
              clear e9 e0 e1 e2 e3 e4 e5 z0 z1 z2 z3 z4 z5 y0 y1 y2 y3 y4 y5
              have q0 := cell_of_blk hh9 (j := 0) rfl
              have q1 := cell_of_blk hh9 (j := 1) rfl
              have q2 := cell_of_blk hh9 (j := 2) rfl
              have q3 := cell_of_blk hh9 (j := 3) rfl
              have q4 := cell_of_blk hh9 (j := 4) rfl
              have q5 := cell_of_blk hh9 (j := 5) rfl
              refine bodyPost_ret (v := .agg #[.int .i64 3, .int .i64 o, .int .i64 i, .string t, .bool at_, .slice p 0 c5]) (by simp [results, Tryz.results44, go_sem, q0, q1, q2, q3, q4, q5]) rfl ⟨.slice p 0 c5, congrArg Ending.returned ?_, ?_, hb9⟩
              · unfold exprV; rw [Ck.renE]; simp only [Tr.E.kind, Tr.E.op, Tr.E.int, Tr.E.name, Tr.E.at_]; rw [if_pos (by simp [heq.out])]
              · have hl0 : l = [] := List.eq_nil_of_length_eq_zero HN.out
                show SlEf _ _ _ (Ck.renEs f t l)
                rw [hl0, Ck.renEs]
                exact .nil _ _
          · have h3b : (k == 3) = false := beq_eq_false_iff_ne.2 h3
            have h3n := Lib.hid h3
            clear h3
            go_upto_region 10 with fail
            have HH8 := HR0
            clear b0 b3 b5 g3 g5
            have e0 : wr.cell? ⟨w.heap.size, 0, none⟩ = some (.int .i64 k) := cell_of_blk HH8.out.bx rfl
            have e1 : wr.cell? ⟨w.heap.size, 1, none⟩ = some (.int .i64 o) := cell_of_blk HH8.out.bx rfl
            have e2 : wr.cell? ⟨w.heap.size, 2, none⟩ = some (.int .i64 i) := cell_of_blk HH8.out.bx rfl
            have e3 : wr.cell? ⟨w.heap.size, 3, none⟩ = some (.string nm) := cell_of_blk HH8.out.bx rfl
            have e4 : wr.cell? ⟨w.heap.size, 4, none⟩ = some (.bool at_) := cell_of_blk HH8.out.bx rfl
            have e5 : wr.cell? ⟨w.heap.size, 5, none⟩ = some (.slice p 0 c5) := cell_of_blk HH8.out.bx rfl
            have z0 := cell_of_blk HH8.out.t6 (j := 0) rfl
            have y0 := HH8.out.free 0
            have z1 := cell_of_blk HH8.out.t6 (j := 1) rfl
            have y1 := HH8.out.free 1
            have z2 := cell_of_blk HH8.out.t6 (j := 2) rfl
            have y2 := HH8.out.free 2
            have z3 := cell_of_blk HH8.out.t6 (j := 3) rfl
            have y3 := HH8.out.free 3
            have z4 := cell_of_blk HH8.out.t6 (j := 4) rfl
            have y4 := HH8.out.free 4
            have z5 := cell_of_blk HH8.out.t6 (j := 5) rfl
            have y5 := HH8.out.free 5
            go_wp2_with fail
            obtain ⟨w9, e9, hh9, hb9, hk9⟩ : ∃ q, q = ((((((wr.setCell ⟨w.heap.size + 1, 0, none⟩ (.int .i64 k)).setCell ⟨w.heap.size + 1, 1, none⟩ (.int .i64 o)).setCell ⟨w.heap.size + 1, 2, none⟩ (.int .i64 i)).setCell ⟨w.heap.size + 1, 3, none⟩ (.string nm)).setCell ⟨w.heap.size + 1, 4, none⟩ (.bool at_)).setCell ⟨w.heap.size + 1, 5, none⟩ (.slice p 0 c5)) ∧ q.heap[w.heap.size + 1]? = some (.cells #[.int .i64 k, .int .i64 o, .int .i64 i, .string nm, .bool at_, .slice p 0 c5] 78 (0, 0)) ∧ Below w.heap.size w q ∧ ∀ b, w.heap.size + 2 ≤ b → q.heap[b]? = wr.heap[b]? := ⟨_, rfl, HH8.out.six (.int .i64 k) (.int .i64 o) (.int .i64 i) (.string nm) (.bool at_) (.slice p 0 c5)⟩
            rw [← e9]
            clear e9 e0 e1 e2 e3 e4 e5 z0 z1 z2 z3 z4 z5 y0 y1 y2 y3 y4 y5
            have q0 := cell_of_blk hh9 (j := 0) rfl
            have q1 := cell_of_blk hh9 (j := 1) rfl
            have q2 := cell_of_blk hh9 (j := 2) rfl
            have q3 := cell_of_blk hh9 (j := 3) rfl
            have q4 := cell_of_blk hh9 (j := 4) rfl
            have q5 := cell_of_blk hh9 (j := 5) rfl
            refine bodyPost_ret (v := .agg #[.int .i64 k, .int .i64 o, .int .i64 i, .string nm, .bool at_, .slice p 0 c5]) (by simp [results, Tryz.results44, go_sem, q0, q1, q2, q3, q4, q5]) rfl ⟨.slice p 0 c5, congrArg Ending.returned ?_, ?_, hb9⟩
            · unfold exprV; rw [Ck.renE]; simp only [Tr.E.kind, Tr.E.op, Tr.E.int, Tr.E.name, Tr.E.at_]; rw [if_neg (fun h => h3n.out h.1)]
            · have hl0 : l = [] := List.eq_nil_of_length_eq_zero HN.out
              show SlEf _ _ _ (Ck.renEs f t l)
              rw [hl0, Ck.renEs]
              exact .nil _ _
        · have h0b : (0 : Int) < (j : Int) := by omega
          have HR1 := Lib.hid (HR0.out.set 5 (.slice pq j cq))
          by_cases h3 : k = 3
          · subst h3
            cases hnm : decide (nm = f)
            · have hq : (nm.toList == f.toList) = false := by rw [bytes_beq, hnm]
              have hne := Lib.hid (of_decide_eq_false hnm)
              clear hnm
              go_upto_region 10 with fail
              obtain ⟨w8, hw8⟩ : ∃ q, q = (wr.setCell ⟨w.heap.size, 5, none⟩ (.slice pq j cq)) := ⟨_, rfl⟩
              have H8 := HR1.out
              rw [← hw8] at H8
              have HW8 := Lib.hid hw8
              clear hw8 b0 b3 b5 g3 g5
              rw [← HW8.out]
              clear HW8
              have HH8 := Lib.hid H8
              clear H8
              have e0 : w8.cell? ⟨w.heap.size, 0, none⟩ = some (.int .i64 3) := cell_of_blk HH8.out.bx rfl
              have e1 : w8.cell? ⟨w.heap.size, 1, none⟩ = some (.int .i64 o) := cell_of_blk HH8.out.bx rfl
              have e2 : w8.cell? ⟨w.heap.size, 2, none⟩ = some (.int .i64 i) := cell_of_blk HH8.out.bx rfl
              have e3 : w8.cell? ⟨w.heap.size, 3, none⟩ = some (.string nm) := cell_of_blk HH8.out.bx rfl
              have e4 : w8.cell? ⟨w.heap.size, 4, none⟩ = some (.bool at_) := cell_of_blk HH8.out.bx rfl
              have e5 : w8.cell? ⟨w.heap.size, 5, none⟩ = some (.slice pq j cq) := cell_of_blk HH8.out.bx rfl
              have z0 := cell_of_blk HH8.out.t6 (j := 0) rfl
              have y0 := HH8.out.free 0
              have z1 := cell_of_blk HH8.out.t6 (j := 1) rfl
              have y1 := HH8.out.free 1
              have z2 := cell_of_blk HH8.out.t6 (j := 2) rfl
              have y2 := HH8.out.free 2
              have z3 := cell_of_blk HH8.out.t6 (j := 3) rfl
              have y3 := HH8.out.free 3
              have z4 := cell_of_blk HH8.out.t6 (j := 4) rfl
              have y4 := HH8.out.free 4
              have z5 := cell_of_blk HH8.out.t6 (j := 5) rfl
              have y5 := HH8.out.free 5
              go_wp2_with fail
              obtain ⟨w9, e9, hh9, hb9, hk9⟩ : ∃ q, q = ((((((w8.setCell ⟨w.heap.size + 1, 0, none⟩ (.int .i64 3)).setCell ⟨w.heap.size + 1, 1, none⟩ (.int .i64 o)).setCell ⟨w.heap.size + 1, 2, none⟩ (.int .i64 i)).setCell ⟨w.heap.size + 1, 3, none⟩ (.string nm)).setCell ⟨w.heap.size + 1, 4, none⟩ (.bool at_)).setCell ⟨w.heap.size + 1, 5, none⟩ (.slice pq j cq)) ∧ q.heap[w.heap.size + 1]? = some (.cells #[.int .i64 3, .int .i64 o, .int .i64 i, .string nm, .bool at_, .slice pq j cq] 78 (0, 0)) ∧ Below w.heap.size w q ∧ ∀ b, w.heap.size + 2 ≤ b → q.heap[b]? = wr.heap[b]? := ⟨_, rfl, HH8.out.six (.int .i64 3) (.int .i64 o) (.int .i64 i) (.string nm) (.bool at_) (.slice pq j cq)⟩
              rw [← e9]
              clear e9 e0 e1 e2 e3 e4 e5 z0 z1 z2 z3 z4 z5 y0 y1 y2 y3 y4 y5
              have q0 := cell_of_blk hh9 (j := 0) rfl
              have q1 := cell_of_blk hh9 (j := 1) rfl
              have q2 := cell_of_blk hh9 (j := 2) rfl
              have q3 := cell_of_blk hh9 (j := 3) rfl
              have q4 := cell_of_blk hh9 (j := 4) rfl
              have q5 := cell_of_blk hh9 (j := 5) rfl
              refine bodyPost_ret (v := .agg #[.int .i64 3, .int .i64 o, .int .i64 i, .string nm, .bool at_, .slice pq j cq]) (by simp [results, Tryz.results44, go_sem, q0, q1, q2, q3, q4, q5]) rfl ⟨.slice pq j cq, congrArg Ending.returned ?_, ?_, hb9⟩
              · unfold exprV; rw [Ck.renE]; simp only [Tr.E.kind, Tr.E.op, Tr.E.int, Tr.E.name, Tr.E.at_]; rw [if_neg (fun h => hne.out h.2)]
              · show SlEf _ _ _ (Ck.renEs f t l)
                have h1 := slEf_own (F := fun b => w.heap.size + 2 ≤ b) HST.out.own (fun q hq => by have := (own_ge HST.out.own hq).1; rw [HS2.out] at this; exact this) (fun x hx => ⟨(HST.out.sub x hx).1, (HST.out.sub x hx).2.move (fun _ _ _ => rfl) (fun b hb _ => by have := hb.1; rw [HS2.out] at this; exact this)⟩)
                have htr := HTR.out
                rw [List.take_of_length_le (by rw [HN.out]; exact Nat.le_refl _)] at htr
                rw [htr] at h1
                exact h1.move (fun b hb _ => hk9 b hb) (fun b hb _ => Nat.le_trans (Nat.le_add_right _ 2) hb)
            · have hq : (nm.toList == f.toList) = true := by rw [bytes_beq, hnm]
              have heq := Lib.hid (of_decide_eq_true hnm)
              clear hnm
              have HRb := Lib.hid (HR1.out.set 3 (.string t))
              go_upto_region 10 with fail
              obtain ⟨w8, hw8⟩ : ∃ q, q = (wr.setCell ⟨w.heap.size, 5, none⟩ (.slice pq j cq)).setCell ⟨w.heap.size, 3, none⟩ (.string t) := ⟨_, rfl⟩
              have H8 := HRb.out
              rw [← hw8] at H8
              have HW8 := Lib.hid hw8
              clear hw8 b0 b3 b5 g3 g5
              rw [← HW8.out]
              clear HW8
              have HH8 := Lib.hid H8
              clear H8
              have e0 : w8.cell? ⟨w.heap.size, 0, none⟩ = some (.int .i64 3) := cell_of_blk HH8.out.bx rfl
              have e1 : w8.cell? ⟨w.heap.size, 1, none⟩ = some (.int .i64 o) := cell_of_blk HH8.out.bx rfl
              have e2 : w8.cell? ⟨w.heap.size, 2, none⟩ = some (.int .i64 i) := cell_of_blk HH8.out.bx rfl
              have e3 : w8.cell? ⟨w.heap.size, 3, none⟩ = some (.string t) := cell_of_blk HH8.out.bx rfl
              have e4 : w8.cell? ⟨w.heap.size, 4, none⟩ = some (.bool at_) := cell_of_blk HH8.out.bx rfl
              have e5 : w8.cell? ⟨w.heap.size, 5, none⟩ = some (.slice pq j cq) := cell_of_blk HH8.out.bx rfl
              have z0 := cell_of_blk HH8.out.t6 (j := 0) rfl
              have y0 := HH8.out.free 0
              have z1 := cell_of_blk HH8.out.t6 (j := 1) rfl
              have y1 := HH8.out.free 1
              have z2 := cell_of_blk HH8.out.t6 (j := 2) rfl
              have y2 := HH8.out.free 2
              have z3 := cell_of_blk HH8.out.t6 (j := 3) rfl
              have y3 := HH8.out.free 3
              have z4 := cell_of_blk HH8.out.t6 (j := 4) rfl
              have y4 := HH8.out.free 4
              have z5 := cell_of_blk HH8.out.t6 (j := 5) rfl
              have y5 := HH8.out.free 5
              go_wp2_with fail
              obtain ⟨w9, e9, hh9, hb9, hk9⟩ : ∃ q, q = ((((((w8.setCell ⟨w.heap.size + 1, 0, none⟩ (.int .i64 3)).setCell ⟨w.heap.size + 1, 1, none⟩ (.int .i64 o)).setCell ⟨w.heap.size + 1, 2, none⟩ (.int .i64 i)).setCell ⟨w.heap.size + 1, 3, none⟩ (.string t)).setCell ⟨w.heap.size + 1, 4, none⟩ (.bool at_)).setCell ⟨w.heap.size + 1, 5, none⟩ (.slice pq j cq)) ∧ q.heap[w.heap.size + 1]? = some (.cells #[.int .i64 3, .int .i64 o, .int .i64 i, .string t, .bool at_, .slice pq j cq] 78 (0, 0)) ∧ Below w.heap.size w q ∧ ∀ b, w.heap.size + 2 ≤ b → q.heap[b]? = wr.heap[b]? := ⟨_, rfl, HH8.out.six (.int .i64 3) (.int .i64 o) (.int .i64 i) (.string t) (.bool at_) (.slice pq j cq)⟩
              rw [← e9]
              clear e9 e0 e1 e2 e3 e4 e5 z0 z1 z2 z3 z4 z5 y0 y1 y2 y3 y4 y5
              have q0 := cell_of_blk hh9 (j := 0) rfl
              have q1 := cell_of_blk hh9 (j := 1) rfl
              have q2 := cell_of_blk hh9 (j := 2) rfl
              have q3 := cell_of_blk hh9 (j := 3) rfl
              have q4 := cell_of_blk hh9 (j := 4) rfl
              have q5 := cell_of_blk hh9 (j := 5) rfl
              refine bodyPost_ret (v := .agg #[.int .i64 3, .int .i64 o, .int .i64 i, .string t, .bool at_, .slice pq j cq]) (by simp [results, Tryz.results44, go_sem, q0, q1, q2, q3, q4, q5]) rfl ⟨.slice pq j cq, congrArg Ending.returned ?_, ?_, hb9⟩
              · unfold exprV; rw [Ck.renE]; simp only [Tr.E.kind, Tr.E.op, Tr.E.int, Tr.E.name, Tr.E.at_]; rw [if_pos (by simp [heq.out])]
              · show SlEf _ _ _ (Ck.renEs f t l)
                have h1 := slEf_own (F := fun b => w.heap.size + 2 ≤ b) HST.out.own (fun q hq => by have := (own_ge HST.out.own hq).1; rw [HS2.out] at this; exact this) (fun x hx => ⟨(HST.out.sub x hx).1, (HST.out.sub x hx).2.move (fun _ _ _ => rfl) (fun b hb _ => by have := hb.1; rw [HS2.out] at this; exact this)⟩)
                have htr := HTR.out
                rw [List.take_of_length_le (by rw [HN.out]; exact Nat.le_refl _)] at htr
                rw [htr] at h1
                exact h1.move (fun b hb _ => hk9 b hb) (fun b hb _ => Nat.le_trans (Nat.le_add_right _ 2) hb)
          · have h3b : (k == 3) = false := beq_eq_false_iff_ne.2 h3
            have h3n := Lib.hid h3
            clear h3
            go_upto_region 10 with fail
            obtain ⟨w8, hw8⟩ : ∃ q, q = (wr.setCell ⟨w.heap.size, 5, none⟩ (.slice pq j cq)) := ⟨_, rfl⟩
            have H8 := HR1.out
            rw [← hw8] at H8
            have HW8 := Lib.hid hw8
            clear hw8 b0 b3 b5 g3 g5
            rw [← HW8.out]
            clear HW8
            have HH8 := Lib.hid H8
            clear H8
            have e0 : w8.cell? ⟨w.heap.size, 0, none⟩ = some (.int .i64 k) := cell_of_blk HH8.out.bx rfl
            have e1 : w8.cell? ⟨w.heap.size, 1, none⟩ = some (.int .i64 o) := cell_of_blk HH8.out.bx rfl
            have e2 : w8.cell? ⟨w.heap.size, 2, none⟩ = some (.int .i64 i) := cell_of_blk HH8.out.bx rfl
            have e3 : w8.cell? ⟨w.heap.size, 3, none⟩ = some (.string nm) := cell_of_blk HH8.out.bx rfl
            have e4 : w8.cell? ⟨w.heap.size, 4, none⟩ = some (.bool at_) := cell_of_blk HH8.out.bx rfl
            have e5 : w8.cell? ⟨w.heap.size, 5, none⟩ = some (.slice pq j cq) := cell_of_blk HH8.out.bx rfl
            have z0 := cell_of_blk HH8.out.t6 (j := 0) rfl
            have y0 := HH8.out.free 0
            have z1 := cell_of_blk HH8.out.t6 (j := 1) rfl
            have y1 := HH8.out.free 1
            have z2 := cell_of_blk HH8.out.t6 (j := 2) rfl
            have y2 := HH8.out.free 2
            have z3 := cell_of_blk HH8.out.t6 (j := 3) rfl
            have y3 := HH8.out.free 3
            have z4 := cell_of_blk HH8.out.t6 (j := 4) rfl
            have y4 := HH8.out.free 4
            have z5 := cell_of_blk HH8.out.t6 (j := 5) rfl
            have y5 := HH8.out.free 5
            go_wp2_with fail
            obtain ⟨w9, e9, hh9, hb9, hk9⟩ : ∃ q, q = ((((((w8.setCell ⟨w.heap.size + 1, 0, none⟩ (.int .i64 k)).setCell ⟨w.heap.size + 1, 1, none⟩ (.int .i64 o)).setCell ⟨w.heap.size + 1, 2, none⟩ (.int .i64 i)).setCell ⟨w.heap.size + 1, 3, none⟩ (.string nm)).setCell ⟨w.heap.size + 1, 4, none⟩ (.bool at_)).setCell ⟨w.heap.size + 1, 5, none⟩ (.slice pq j cq)) ∧ q.heap[w.heap.size + 1]? = some (.cells #[.int .i64 k, .int .i64 o, .int .i64 i, .string nm, .bool at_, .slice pq j cq] 78 (0, 0)) ∧ Below w.heap.size w q ∧ ∀ b, w.heap.size + 2 ≤ b → q.heap[b]? = wr.heap[b]? := ⟨_, rfl, HH8.out.six (.int .i64 k) (.int .i64 o) (.int .i64 i) (.string nm) (.bool at_) (.slice pq j cq)⟩
            rw [← e9]
            clear e9 e0 e1 e2 e3 e4 e5 z0 z1 z2 z3 z4 z5 y0 y1 y2 y3 y4 y5
            have q0 := cell_of_blk hh9 (j := 0) rfl
            have q1 := cell_of_blk hh9 (j := 1) rfl
            have q2 := cell_of_blk hh9 (j := 2) rfl
            have q3 := cell_of_blk hh9 (j := 3) rfl
            have q4 := cell_of_blk hh9 (j := 4) rfl
            have q5 := cell_of_blk hh9 (j := 5) rfl
            refine bodyPost_ret (v := .agg #[.int .i64 k, .int .i64 o, .int .i64 i, .string nm, .bool at_, .slice pq j cq]) (by simp [results, Tryz.results44, go_sem, q0, q1, q2, q3, q4, q5]) rfl ⟨.slice pq j cq, congrArg Ending.returned ?_, ?_, hb9⟩
            · unfold exprV; rw [Ck.renE]; simp only [Tr.E.kind, Tr.E.op, Tr.E.int, Tr.E.name, Tr.E.at_]; rw [if_neg (fun h => h3n.out h.1)]
            · show SlEf _ _ _ (Ck.renEs f t l)
              have h1 := slEf_own (F := fun b => w.heap.size + 2 ≤ b) HST.out.own (fun q hq => by have := (own_ge HST.out.own hq).1; rw [HS2.out] at this; exact this) (fun x hx => ⟨(HST.out.sub x hx).1, (HST.out.sub x hx).2.move (fun _ _ _ => rfl) (fun b hb _ => by have := hb.1; rw [HS2.out] at this; exact this)⟩)
              have htr := HTR.out
              rw [List.take_of_length_le (by rw [HN.out]; exact Nat.le_refl _)] at htr
              rw [htr] at h1
              exact h1.move (fun b hb _ => hk9 b hb) (fun b hb _ => Nat.le_trans (Nat.le_add_right _ 2) hb)
end Go.Proofs.YtdafdbjdnebnfaaGreatDoor
