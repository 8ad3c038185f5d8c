/-
  Several texts in one: SyLine, SySimple.
-/
import Derived.Test.YtlgfickhkejdjaaGreatDoorMSyExpr
namespace Go.Proofs.YtlgfickhkejdjaaGreatDoor
open Go.RowKit

theorem repeat_ind : ∀ d : Nat, Lib.repeatL [32, 32] d = Sy.ind d := by
  intro d
  unfold Sy.ind
  induction d with
  | zero => rfl
  | succ n ih =>
    have e : 2 * (n + 1) = 2 + 2 * n := by omega
    rw [e, ← List.replicate_append_replicate, ← ih]
    rfl
set_option maxRecDepth 100000 in
set_option maxHeartbeats 4000000 in
theorem line_any {w0 : World} {B b : Nat} {l : List UInt8} {deep : Nat} {w : World} (hI : PrIn w0 B b l deep w) (F : Nat) (caps : Array Value) (t : List UInt8) (hd : deep ≤ 1000000) (hlen : l.length + (Sy.line deep t).length ≤ 140737488355328)
    (hent : ∀ args W, (callFunc F args).run Tryz.prog W = .ok (.enter F args) W)
    (HF : ∀ W, Pk B b w W → PrIn w0 B b (l ++ Sy.ind deep) deep W → Calls Tryz.prog F caps W (PrPost B b (l ++ Sy.ind deep) t deep W)) :
    Calls Tryz.prog 123 #[.pointer (some ⟨b, 0, none⟩), .func (.func F) #[] caps] w (PrPost B b l (Sy.line deep t) deep w) := by
  have hl : (Sy.ind deep).length = 2 * deep := by unfold Sy.ind; rw [List.length_replicate]
  have hlen2 : l.length + (2 * deep + t.length + 1) ≤ 140737488355328 := by
    unfold Sy.line at hlen
    simp only [List.length_append, List.length_cons, List.length_nil, hl] at hlen
    omega
  have KR := Lib.hid (Tryz.strings_Repeat ⟨#[32, 32]⟩ deep w (by omega) (by show 2 * deep ≤ _; omega))
  have HI := Lib.hid hI
  have HH := Lib.hid HF
  have c2 := hI.st.cell2
  have hlt := hI.lt
  clear hI HF hlen
  go_enter Tryz.func123, Tryz.ntmps123
  go_wp2_with fail
  refine KR.out.mono ?_
  rintro e' w2 ⟨rfl, hb2⟩
  rw [repeat_ind]
  have HI2 := Lib.hid (HI.out.below hb2)
  have HK2 : Hid (Pk B b w w2) := Pk.of_below hb2 HI.out.leB
  have KW := Lib.hid (wr_any HI2.out [⟨(Sy.ind deep).toArray⟩] 1 #[.string ⟨(Sy.ind deep).toArray⟩] (Sy.ind deep) rfl rfl (by simp [flatB]) (by omega) (by decide))
  clear hb2 c2 hlt
  go_wp2_with fail
  refine KW.out.mono ?_
  rintro e' w3 ⟨rfl, hs, hk⟩
  have HI3 := Lib.hid (HI2.out.next hs hk)
  have HK3 := Lib.hid (HK2.out.trans hk)
  have KF := Lib.hid (HH.out w3 HK3.out HI3.out)
  clear hs hk
  go_wp2_with fail
  refine KF.out.mono ?_
  rintro e' w4 ⟨rfl, hs, hk⟩
  have HI4 := Lib.hid (HI3.out.next hs hk)
  have HK4 := Lib.hid (HK3.out.trans hk)
  clear hs hk
  have KW4 := Lib.hid (wr_any HI4.out [⟨#[10]⟩] 1 #[.string ⟨#[10]⟩] [10] rfl rfl (by simp [flatB]) (by simp only [List.length_append, List.length_cons, List.length_nil, hl]; omega) (by decide))
  go_wp2_with fail
  refine KW4.out.mono ?_
  rintro e' w5 ⟨rfl, hs, hk⟩
  have HS5 := Lib.hid hs
  have HK5 := Lib.hid (HK4.out.trans hk)
  clear hs hk
  go_wp2_with fail
  go_end0
  exact ⟨rfl, by have h1 := HS5.out; unfold Sy.line; simp only [List.append_assoc] at h1 ⊢; exact h1, HK5.out⟩

set_option maxRecDepth 100000 in
set_option maxHeartbeats 4000000 in
/-- word at literal texts: their block is made by the call's own statement -/
theorem word_any {w0 : World} {B b : Nat} {l : List UInt8} {deep : Nat} {W : World} (hI : PrIn w0 B b l deep W) (ts : List ByteArray) (n : Nat) (cs : Array Value) (t : List UInt8) (hcs : cs = (ts.map Value.string).toArray) (hn : ts.length = n) (ht : flatB ts = t) (hd : deep ≤ 1000000)
    (hlen : l.length + (Sy.line deep t).length ≤ 140737488355328) (hn2 : n ≤ 1000000) :
    Calls Tryz.prog 92 #[.pointer (some ⟨b, 0, none⟩), .slice (some ⟨W.heap.size, 0, none⟩) n n] (W.alloc (.cells cs 9)) (PrPost B b l (Sy.line deep t) deep W) := by
  subst hcs ht
  have hlt := hI.lt
  obtain ⟨w1, hw1⟩ : ∃ q, q = W.alloc (.cells (ts.map Value.string).toArray 9) := ⟨_, rfl⟩
  obtain ⟨w2, hw2⟩ : ∃ q, q = w1.alloc (.cells #[.pointer (some ⟨b, 0, none⟩)] 62) := ⟨_, rfl⟩
  obtain ⟨w3, hw3⟩ : ∃ q, q = w2.alloc (.cells #[.slice (some ⟨W.heap.size, 0, none⟩) n n] 47) := ⟨_, rfl⟩
  have hs1 : w1.heap.size = W.heap.size + 1 := by rw [hw1]; exact World.size_alloc _ _
  have hs2 : w2.heap.size = W.heap.size + 1 + 1 := by rw [hw2, World.size_alloc, hs1]
  have hb2 := below_box w1 (.cells #[.pointer (some ⟨b, 0, none⟩)] 62)
  have hb3 := below_box w2 (.cells #[.slice (some ⟨W.heap.size, 0, none⟩) n n] 47)
  have hc1 : w1.heap[W.heap.size]? = some (.cells (ts.map Value.string).toArray 9 (0, 0)) := by rw [hw1]; exact (MapKept.heap_alloc W _).1
  have hc2 : w2.heap[W.heap.size + 1]? = some (.cells #[.pointer (some ⟨b, 0, none⟩)] 62 (0, 0)) := by rw [← hs1, hw2]; exact (MapKept.heap_alloc w1 _).1
  have hc3 : w3.heap[W.heap.size + 1 + 1]? = some (.cells #[.slice (some ⟨W.heap.size, 0, none⟩) n n] 47 (0, 0)) := by rw [← hs2, hw3]; exact (MapKept.heap_alloc w2 _).1
  rw [← hw2] at hb2
  rw [← hw3] at hb3
  have hc1' := (hb3.block _ (by omega)).trans ((hb2.block _ (by omega)).trans hc1)
  have hc2' := (hb3.block _ (by omega)).trans hc2
  have hi3 : PrIn w0 B b l deep w3 := by rw [hw3, hw2, hw1]; exact ((hI.box _).box _).box _
  have hk3 : Pk B b W w3 := by rw [hw3, hw2, hw1]; exact ((hI.pk _).trans ((hI.box _).pk _)).trans (((hI.box _).box _).pk _)
  have hl : (Sy.ind deep).length = 2 * deep := by unfold Sy.ind; rw [List.length_replicate]
  have hlen2 : l.length + (2 * deep + (flatB ts).length + 1) ≤ 140737488355328 := by
    unfold Sy.line at hlen
    simp only [List.length_append, List.length_cons, List.length_nil, hl] at hlen
    omega
  have KL := Lib.hid (line_any hi3 124 #[.pointer (some ⟨W.heap.size + 1, 0, none⟩), .pointer (some ⟨W.heap.size + 1 + 1, 0, none⟩)] (flatB ts) hd hlen (enters_of Tryz.func124 (by kernel_rfl) rfl) (fun V hk hi => by
    have kw := write_any hi ts W.heap.size n (hk.box hc1' (by omega) (by decide)) (by omega) hn (by rw [List.length_append, hl]; omega) hn2
    have q2 := cell_of_blkP (hk.box hc2' (by omega) (by decide)) (j := 0) (u := .pointer (some ⟨b, 0, none⟩)) rfl
    have q3 := cell_of_blkP (hk.box hc3 (by omega) (by decide)) (j := 0) (u := .slice (some ⟨W.heap.size, 0, none⟩) n n) rfl
    have KW := Lib.hid kw
    clear kw hk hi
    go_enter Tryz.func124, Tryz.ntmps124
    go_wp2_with fail
    refine KW.out.mono ?_
    rintro e' w9 ⟨rfl, hs, hk⟩
    have HS9 := Lib.hid hs
    have HK9 := Lib.hid hk
    clear hs hk q2 q3
    go_wp2_with fail
    go_end0
    exact ⟨rfl, HS9.out, HK9.out⟩))
  have HK3 := Lib.hid hk3
  have HW3 : Hid (w3 = ((W.alloc (.cells (ts.map Value.string).toArray 9)).alloc (.cells #[.pointer (some ⟨b, 0, none⟩)] 62)).alloc (.cells #[.slice (some ⟨W.heap.size, 0, none⟩) n n] 47)) := by show _ = _; rw [hw3, hw2, hw1]
  clear hw1 hw2 hw3 hs1 hs2 hb2 hb3 hc1 hc2 hc3 hc1' hc2' hi3 hk3 hl hlen2 hI hlen hlt
  go_enter Tryz.func92, Tryz.ntmps92
  go_wp2_with fail
  rw [← HW3.out]
  refine KL.out.mono ?_
  rintro e' w4 ⟨rfl, hs, hk⟩
  have HS4 := Lib.hid hs
  have HK4 := Lib.hid (HK3.out.trans hk)
  clear hs hk
  go_wp2_with fail
  go_end0
  exact ⟨rfl, HS4.out, HK4.out⟩
end Go.Proofs.YtlgfickhkejdjaaGreatDoor

namespace Go.Proofs.YtlgfickhkejdjaaGreatDoor
open Go.RowKit

theorem PrIn.next2 {w0 : World} {B b : Nat} {l l' : List UInt8} {deep deep' : Int} {w w' : World} (h : PrIn w0 B b l deep w) (hs : PrSt B b l' deep' w') (hk : Pk B b w w') : PrIn w0 B b l' deep' w' :=
  ⟨hs, h.base.trans (hk.below.mono h.le), h.le, Nat.le_trans h.leB hk.below.size⟩
set_option maxRecDepth 100000 in
set_option maxHeartbeats 4000000 in
theorem block_any {w0 : World} {B b : Nat} {l : List UInt8} {deep : Nat} {w : World} (hI : PrIn w0 B b l deep w) (F : Nat) (caps : Array Value) (t : List UInt8) (hd : deep ≤ 1000000)
    (hent : ∀ args W, (callFunc F args).run Tryz.prog W = .ok (.enter F args) W)
    (HF : ∀ W, Pk B b w W → PrIn w0 B b l ((deep + 1 : Nat) : Int) W → Calls Tryz.prog F caps W (PrPost B b l t ((deep + 1 : Nat) : Int) W)) :
    Calls Tryz.prog 93 #[.pointer (some ⟨b, 0, none⟩), .func (.func F) #[] caps] w (PrPost B b l t deep w) := by
  have c2 := hI.st.cell2
  have f2 := hI.st.free 2
  have bw : IntKind.i64.wrap ((deep : Int) + 1) = (deep : Int) + 1 := IntWalk.i64_in _ (by omega)
  have hk := (Pk.refl B b w).set hI.st.hB 2 (.int .i64 ((deep : Int) + 1))
  have hs := hI.st.set2 ((deep : Int) + 1)
  obtain ⟨w1, hw1⟩ : ∃ q, q = w.setCell ⟨b, 2, none⟩ (.int .i64 ((deep : Int) + 1)) := ⟨_, rfl⟩
  rw [← hw1] at hk hs
  have hi1 : PrIn w0 B b l ((deep + 1 : Nat) : Int) w1 := hI.next2 (deep' := ((deep + 1 : Nat) : Int)) (by rw [Int.natCast_add]; exact hs) hk
  have KF := Lib.hid (HF w1 hk hi1)
  have HI1 := Lib.hid hi1
  have HK1 := Lib.hid hk
  have HW1 := Lib.hid hw1
  clear hI HF hk hs hw1 hi1
  go_enter Tryz.func93, Tryz.ntmps93
  go_wp2_with fail
  rw [← HW1.out]
  refine KF.out.mono ?_
  rintro e' w2 ⟨rfl, hs, hk⟩
  have d2 := hs.cell2
  have g2 := hs.free 2
  have bw2 : IntKind.i64.wrap (((deep + 1 : Nat) : Int) - 1) = (deep : Int) := by rw [Int.natCast_add]; rw [show ((deep : Int) + ((1 : Nat) : Int)) - 1 = (deep : Int) by omega]; exact IntWalk.i64_in _ (by omega)
  have HS2 := Lib.hid (hs.set2 (deep : Int))
  have HK2 := Lib.hid ((HK1.out.trans hk).set hs.hB 2 (.int .i64 (deep : Int)))
  clear hs hk c2 f2 HW1
  go_wp2_with fail
  go_end0
  exact ⟨rfl, HS2.out, HK2.out⟩

set_option maxRecDepth 100000 in
set_option maxHeartbeats 4000000 in
theorem arg_any {w0 : World} (hE : PrEnv w0) (xs : List Tr.E) (hv : ∀ x ∈ xs, Tr.validE x = true) (px : Option Addr) (XN cx : Nat) (hS : SlE w0 (.slice px XN cx) xs) (hN : xs.length = XN) (j : Nat) (x : Tr.E) (hx : xs[j]? = some x) (req : Nat) (k : Int) (nm : ByteArray) (vy vz : Value) (pb sb B b : Nat) (l : List UInt8) (deep : Int) (w : World)
    (hI : PrIn w0 B b l deep w) (hpb : w.heap[pb]? = some (.cells #[.pointer (some ⟨b, 0, none⟩)] 62 (0, 0))) (hsb : w.heap[sb]? = some (.cells #[.int .i64 k, .string nm, .slice px XN cx, vy, vz] 46 (0, 0)))
    (hlen : l.length + (Sy.par req (Sy.level x, Sy.text x)).length ≤ 140737488355328) :
    Calls Tryz.prog 163 #[.int .i64 j, .int .i64 req, .pointer (some ⟨pb, 0, none⟩), .pointer (some ⟨sb, 0, none⟩)] w (PrPost B b l (Sy.par req (Sy.level x, Sy.text x)) deep w) := by
  have cp := cell_of_blkP hpb (j := 0) (u := .pointer (some ⟨b, 0, none⟩)) rfl
  have cs := cell_of_blkP hsb (j := 2) (u := .slice px XN cx) rfl
  obtain ⟨b', o', aa, rfl, _, hc, hbd, hsl⟩ := hS.get hx
  have hj : j < XN := by rw [← hN]; exact (List.getElem?_eq_some_iff.1 hx).1
  obtain ⟨pa, ca, rfl, _⟩ := hsl.form
  obtain ⟨AN, hAN⟩ : ∃ q, x.args.length = q := ⟨_, rfl⟩
  rw [hAN] at hsl hc
  obtain ⟨y0, y1, y2, y3, y4, y5⟩ := hc.keep hI.base
  have hm := hv x (List.mem_of_getElem? hx)
  have hi2 := hI.drew
  have hcall := exprC hE x.deep x pa AN ca B b l deep w.drew req (Nat.le_refl _) hm hAN hsl hi2 hlen
  unfold exprV at hcall
  have HCALL := Lib.hid hcall
  have HK2 := Lib.hid (Pk.refl B b w).drew
  have b3 : (j : Int) < (XN : Int) := by omega
  have hl1 := cell_lt' cs
  have hl2 := cell_lt' y0
  have hl3 := cell_lt' cp
  clear hI hpb hsb hc hbd hsl hx hN hAN hS hv hm hi2 hcall hj
  go_enter Tryz.func163, Tryz.ntmps163
  go_wp2_with fail
  go_still_tail 7, (by kernel_rfl)
  change wpList _ _ _ _ _ w.drew
  obtain ⟨w3, hw3⟩ : ∃ q, q = w.drew := ⟨_, rfl⟩
  rw [← hw3] at HCALL HK2 ⊢
  clear hw3 cp cs y0 y1 y2 y3 y4 y5 hl1 hl2 hl3 b3
  go_wp2_with fail
  refine HCALL.out.mono ?_
  rintro e' w4 ⟨rfl, hs4, hk4⟩
  have HS4 := Lib.hid hs4
  have HK4 := Lib.hid (HK2.out.trans hk4)
  clear hs4 hk4
  go_wp2_with fail
  go_end0
  exact ⟨rfl, HS4.out, HK4.out⟩
end Go.Proofs.YtlgfickhkejdjaaGreatDoor
