/-
  The law's in, walked: the text of an expression where a level is required.
-/
import Derived.Test.YtlgfickhkejdjaaGreatDoorMSyLawBase
namespace Go.Proofs.YtlgfickhkejdjaaGreatDoor
open Go.RowKit Go.Maps

theorem exprText_valid {e : Tr.E} (h : Tr.validE e = true) : Sy.exprText e = Sy.text e := by unfold Sy.exprText; rw [if_pos h]

set_option maxRecDepth 100000 in
set_option maxHeartbeats 1000000 in
theorem lawIn_any (e : Tr.E) (p : Option Addr) (N c req : Nat) (w : World) (hE : SyEnv w) (hbd : BdE e) (hN : e.args.length = N) (hS : SlE w (.slice p N c) e.args) (hv : Tr.validE e = true) (hl : (Sy.text e).length ≤ 1000000) :
    Calls Tryz.prog 28 #[exprV e (.slice p N c), .int .i64 req] w fun r w' => r = .returned (.string ⟨(Sy.par req (Sy.level e, Sy.text e)).toArray⟩) ∧ Below w.heap.size w w' := by
  have ho := valid_op hv
  obtain ⟨hb1, hc1⟩ := box1_of w #[.int .i64 e.kind, .int .i64 e.op, .int .i64 e.int, .string e.name, .bool e.at_, .slice p N c] 24
  obtain ⟨w1, hw1⟩ : ∃ q, q = w.alloc (.cells #[.int .i64 e.kind, .int .i64 e.op, .int .i64 e.int, .string e.name, .bool e.at_, .slice p N c] 24) := ⟨_, rfl⟩
  rw [← hw1] at hb1 hc1
  have KL : Hid (∀ W, Calls Tryz.prog 67 #[exprV e (.slice p N c)] W fun r w' => r = .returned (.int .i64 (Sy.level e : Nat)) ∧ Below W.heap.size W w') := fun W => (refLevel_any e p N c W ho).mono fun r w' ⟨h1, h2⟩ => ⟨h1, by rw [h2]; exact below_box _ _⟩
  have hez := hE.keep hb1
  have hs1 := hS.keep hb1
  have KE : Hid (∀ W, Below w1.heap.size w1 W → Calls Tryz.prog 15 #[exprV e (.slice p N c)] W fun r w' => r = .returned (.string ⟨(Sy.text e).toArray⟩) ∧ Below W.heap.size W w') := fun W hb => by
    have h := syExpr_any e (.slice p N c) W (hez.keep hb) hbd (by rw [← hN] at hs1 ⊢; exact hs1.keep hb) (Nat.le_trans hl (by decide))
    rw [exprText_valid hv] at h
    exact h
  have HW1 := Lib.hid hw1
  have HB1 := Lib.hid hb1
  have HC := Lib.hid hc1
  have hsz : (⟨(Sy.text e).toArray⟩ : ByteArray).size ≤ 1000000 := hl
  have hfin : ∀ b : Bool, decide (Sy.level e < req) = b → (⟨(Sy.par req (Sy.level e, Sy.text e)).toArray⟩ : ByteArray) = if b then ⟨#[40]⟩ ++ ⟨(Sy.text e).toArray⟩ ++ ⟨#[41]⟩ else ⟨(Sy.text e).toArray⟩ := by
    rintro b rfl
    unfold Sy.par
    by_cases hc : Sy.level e < req
    · rw [if_pos hc, decide_eq_true hc, if_pos rfl]
      show (⟨([40] ++ Sy.text e ++ [41]).toArray⟩ : ByteArray) = (⟨([40]).toArray⟩ : ByteArray) ++ ⟨(Sy.text e).toArray⟩ ++ (⟨([41]).toArray⟩ : ByteArray)
      rw [mk_app, mk_app]
    · rw [if_neg hc, decide_eq_false hc]
      rfl
  obtain ⟨T, hT⟩ : ∃ q : ByteArray, ⟨(Sy.text e).toArray⟩ = q := ⟨_, rfl⟩
  obtain ⟨R, hR⟩ : ∃ q : ByteArray, ⟨(Sy.par req (Sy.level e, Sy.text e)).toArray⟩ = q := ⟨_, rfl⟩
  obtain ⟨L, hL⟩ : ∃ q, Sy.level e = q := ⟨_, rfl⟩
  have hL9 : L ≤ 9 := by
    rw [← hL]
    obtain ⟨k, o, i, nm, a, l⟩ := e
    unfold Sy.level Sy.levelK Sy.opLevel
    repeat' split
    all_goals omega
  rw [hT, hR] at hfin
  rw [hL] at KL hfin
  rw [hT] at KE hsz
  rw [hR]
  have HF := Lib.hid hfin
  unfold exprV at KL KE ⊢
  clear hE hbd hN hS hv hl ho hb1 hc1 hw1 hez hs1 hT hR hL hfin
  by_cases hlt : L < req
  · have hlt2 : (L : Int) < (req : Int) := by omega
    have k1 : ¬ 9223372036854775807 < 1 + T.size := by omega
    have k2 : ¬ 9223372036854775807 < 1 + T.size + 1 := by omega
    have HF2 := Lib.hid (HF.out true (decide_eq_true hlt))
    clear hlt hsz HF
    go_enter Tryz.func28, Tryz.ntmps28
    go_upto_region 1 with fail
    rw [← HW1.out]
    have HR := Lib.hid (Below.refl w1.heap.size w1)
    have d0 := HC.out _ HR.out 0 _ rfl
    have d1 := HC.out _ HR.out 1 _ rfl
    have d2 := HC.out _ HR.out 2 _ rfl
    have d3 := HC.out _ HR.out 3 _ rfl
    have d4 := HC.out _ HR.out 4 _ rfl
    have d5 := HC.out _ HR.out 5 _ rfl
    go_wp2_with fail
    refine (KL.out _).mono ?_
    rintro r wy ⟨rfl, hby⟩
    have HR := Lib.hid (below_next HR.out hby)
    clear hby d0 d1 d2 d3 d4 d5
    have d0 := HC.out _ HR.out 0 _ rfl
    have d1 := HC.out _ HR.out 1 _ rfl
    have d2 := HC.out _ HR.out 2 _ rfl
    have d3 := HC.out _ HR.out 3 _ rfl
    have d4 := HC.out _ HR.out 4 _ rfl
    have d5 := HC.out _ HR.out 5 _ rfl
    go_wp2_with fail
    refine (KE.out _ HR.out).mono ?_
    rintro r wy ⟨rfl, hby⟩
    have HR := Lib.hid (below_next HR.out hby)
    clear hby d0 d1 d2 d3 d4 d5
    go_wp2_with fail
    go_ret
    exact ⟨by rw [HF2.out]; rfl, below_next HB1.out HR.out⟩
  · have hlt2 : ¬ (L : Int) < (req : Int) := by omega
    have HF2 := Lib.hid (HF.out false (decide_eq_false hlt))
    clear hlt hsz HF
    go_enter Tryz.func28, Tryz.ntmps28
    go_upto_region 1 with fail
    rw [← HW1.out]
    have HR := Lib.hid (Below.refl w1.heap.size w1)
    have d0 := HC.out _ HR.out 0 _ rfl
    have d1 := HC.out _ HR.out 1 _ rfl
    have d2 := HC.out _ HR.out 2 _ rfl
    have d3 := HC.out _ HR.out 3 _ rfl
    have d4 := HC.out _ HR.out 4 _ rfl
    have d5 := HC.out _ HR.out 5 _ rfl
    go_wp2_with fail
    refine (KL.out _).mono ?_
    rintro r wy ⟨rfl, hby⟩
    have HR := Lib.hid (below_next HR.out hby)
    clear hby d0 d1 d2 d3 d4 d5
    have d0 := HC.out _ HR.out 0 _ rfl
    have d1 := HC.out _ HR.out 1 _ rfl
    have d2 := HC.out _ HR.out 2 _ rfl
    have d3 := HC.out _ HR.out 3 _ rfl
    have d4 := HC.out _ HR.out 4 _ rfl
    have d5 := HC.out _ HR.out 5 _ rfl
    go_wp2_with fail
    refine (KE.out _ HR.out).mono ?_
    rintro r wy ⟨rfl, hby⟩
    have HR := Lib.hid (below_next HR.out hby)
    clear hby d0 d1 d2 d3 d4 d5
    go_wp2_with fail
    go_ret
    exact ⟨by rw [HF2.out]; rfl, below_next HB1.out HR.out⟩
/-! ### the texts of one more operation -/
theorem one_valid {k : Int} {nm : ByteArray} {e : Tr.E} (h : Tr.validE e = true) (hok : Tr.okE k 0 0 nm false 1 = true) : Tr.validE (.mk k 0 0 nm false [e]) = true := by
  rw [Tr.validE, Tr.validEs, Tr.validEs, h]
  exact hok
theorem par_size (r : Nat) (e : Tr.E) {n : Nat} (h : (Sy.text e).length ≤ n) : (⟨(Sy.par r (Sy.level e, Sy.text e)).toArray⟩ : ByteArray).size ≤ n + 2 := by
  have := Sy.par_len r (Sy.level e, Sy.text e)
  show (Sy.par r (Sy.level e, Sy.text e)).length ≤ n + 2
  have h2 : (Sy.level e, Sy.text e).2.length = (Sy.text e).length := rfl
  omega
theorem bdE_mk {k o i : Int} {nm : ByteArray} {a : Bool} {l : List Tr.E} (h1 : Tr.I64 k) (h2 : Tr.I64 o) (h3 : Tr.I64 i) (h4 : nm.size ≤ maxLen) : BdE (.mk k o i nm a l) := ⟨h1, h2, h3, h4⟩
theorem grown_setCell (w : World) (P j : Nat) (u : Value) : w.grownBy (w.setCell ⟨P, j, none⟩ u) (some P) :=
  ⟨rfl, rfl, rfl, by simp [World.setCell], fun k _ hk => Below.heap_setCell w _ u k (fun e => hk (by rw [e]))⟩
theorem heap_set {w : World} {P j : Nat} {cs : Array Value} {t : TypeId} {r : Nat × Nat} (u : Value) (h : w.heap[P]? = some (.cells cs t r)) : (w.setCell ⟨P, j, none⟩ u).heap[P]? = some (.cells (cs.setIfInBounds j u) t r) := by
  have hlt := lt_of_block h
  have h' : w.heap[P] = .cells cs t r := by simpa [Array.getElem?_eq_getElem hlt] using h
  show (w.heap.modify P _)[P]? = _
  rw [Array.getElem?_eq_getElem (by simpa using hlt), Array.getElem_modify_self, h']
  rfl
theorem blk_free {w : World} {b : Nat} {cs : Array Value} {t : TypeId} (h : w.heap[b]? = some (.cells cs t (0, 0))) (i : Nat) : w.frozen? ⟨b, i, none⟩ = false := by simp [World.frozen?, h]
def pB (r : Nat) (e : Tr.E) : ByteArray := ⟨(Sy.par r (Sy.level e, Sy.text e)).toArray⟩
theorem one_text8 {e : Tr.E} (h : Tr.validE e = true) : (⟨(Sy.exprText (.mk 8 0 0 ⟨#[]⟩ false [e])).toArray⟩ : ByteArray) = ⟨#[45]⟩ ++ pB 7 e := by
  rw [exprText_valid (one_valid h rfl), Sy.text, Sy.texts, Sy.texts]
  exact (mk_app [45] _).symm
theorem one_text6 {e : Tr.E} (h : Tr.validE e = true) : (⟨(Sy.exprText (.mk 6 0 0 ⟨#[]⟩ false [e])).toArray⟩ : ByteArray) = ⟨#[119, 101, 97, 107, 32]⟩ ++ pB 7 e := by
  rw [exprText_valid (one_valid h rfl), Sy.text, Sy.texts, Sy.texts]
  exact (mk_app [119, 101, 97, 107, 32] _).symm
theorem one_text7 {e : Tr.E} (h : Tr.validE e = true) : (⟨(Sy.exprText (.mk 7 0 0 ⟨#[]⟩ false [e])).toArray⟩ : ByteArray) = ⟨#[103, 101, 116, 32]⟩ ++ pB 7 e := by
  rw [exprText_valid (one_valid h rfl), Sy.text, Sy.texts, Sy.texts]
  exact (mk_app [103, 101, 116, 32] _).symm
theorem one_text9 {e : Tr.E} (h : Tr.validE e = true) : (⟨(Sy.exprText (.mk 9 0 0 ⟨#[]⟩ false [e])).toArray⟩ : ByteArray) = ⟨#[110, 111, 116, 32]⟩ ++ pB 3 e := by
  rw [exprText_valid (one_valid h rfl), Sy.text, Sy.texts, Sy.texts]
  exact (mk_app [110, 111, 116, 32] _).symm
theorem one_text4 {e : Tr.E} (h : Tr.validE e = true) : (⟨(Sy.exprText (.mk 4 0 0 ⟨#[102]⟩ false [e])).toArray⟩ : ByteArray) = pB 8 e ++ ⟨#[46, 102]⟩ := by
  rw [exprText_valid (one_valid h (by decide)), Sy.text, Sy.texts, Sy.texts]
  show (⟨(Sy.par 8 (Sy.level e, Sy.text e) ++ [46] ++ [102]).toArray⟩ : ByteArray) = _
  rw [List.append_assoc]
  exact (mk_app _ [46, 102]).symm
theorem two_valid {k o : Int} {nm : ByteArray} {a : Bool} {x y : Tr.E} (hx : Tr.validE x = true) (hy : Tr.validE y = true) (hok : Tr.okE k o 0 nm a 2 = true) : Tr.validE (.mk k o 0 nm a [x, y]) = true := by
  rw [Tr.validE, Tr.validEs, Tr.validEs, Tr.validEs, hx, hy]
  exact hok
theorem new_text {x y : Tr.E} (hx : Tr.validE x = true) (hy : Tr.validE y = true) : (⟨(Sy.exprText (.mk 5 0 0 ⟨#[67]⟩ true [x, y])).toArray⟩ : ByteArray) = ⟨#[110, 101, 119, 32, 67, 40]⟩ ++ ⟨(Sy.text x).toArray⟩ ++ ⟨#[41, 32, 97, 116, 32]⟩ ++ pB 7 y := by
  rw [exprText_valid (two_valid hx hy (by decide)), Sy.text, Sy.texts, Sy.texts, Sy.texts]
  show (⟨([110, 101, 119, 32] ++ [67] ++ [40] ++ Sy.text x ++ [41, 32, 97, 116, 32] ++ Sy.par 7 (Sy.level y, Sy.text y)).toArray⟩ : ByteArray) = (⟨([110, 101, 119, 32, 67, 40]).toArray⟩ : ByteArray) ++ ⟨(Sy.text x).toArray⟩ ++ (⟨([41, 32, 97, 116, 32]).toArray⟩ : ByteArray) ++ ⟨(Sy.par 7 (Sy.level y, Sy.text y)).toArray⟩
  rw [mk_app, mk_app, mk_app]
  rfl
theorem bin_ok (o : Int) (h0 : 0 ≤ o) (h1 : o ≤ 12) : Tr.okE 10 o 0 ⟨#[]⟩ false 2 = true := by rw [okE_10, decide_eq_true_eq]; exact ⟨rfl, rfl, h0, h1⟩
theorem bin_text {o : Int} {x y : Tr.E} (h0 : 0 ≤ o) (h1 : o ≤ 12) (hx : Tr.validE x = true) (hy : Tr.validE y = true) : (⟨(Sy.exprText (.mk 10 o 0 ⟨#[]⟩ false [x, y])).toArray⟩ : ByteArray) = pB (if Sy.opLevel o = 4 then 5 else Sy.opLevel o) x ++ ⟨#[32]⟩ ++ ⟨(Sy.sym o).toArray⟩ ++ ⟨#[32]⟩ ++ pB (Sy.opLevel o + 1) y := by
  rw [exprText_valid (two_valid hx hy (bin_ok o h0 h1)), Sy.text, Sy.texts, Sy.texts, Sy.texts]
  show (⟨(Sy.par (if Sy.opLevel o = 4 then 5 else Sy.opLevel o) (Sy.level x, Sy.text x) ++ [32] ++ Sy.sym o ++ [32] ++ Sy.par (Sy.opLevel o + 1) (Sy.level y, Sy.text y)).toArray⟩ : ByteArray) = (⟨(Sy.par (if Sy.opLevel o = 4 then 5 else Sy.opLevel o) (Sy.level x, Sy.text x)).toArray⟩ : ByteArray) ++ (⟨([32]).toArray⟩ : ByteArray) ++ ⟨(Sy.sym o).toArray⟩ ++ (⟨([32]).toArray⟩ : ByteArray) ++ ⟨(Sy.par (Sy.opLevel o + 1) (Sy.level y, Sy.text y)).toArray⟩
  rw [mk_app, mk_app, mk_app, mk_app]
theorem one_len {k o : Int} {nm : ByteArray} {a : Bool} {l : List Tr.E} {n : Nat} (h : Sy.tl (Sy.texts l) ≤ n) : (Sy.text (.mk k o 0 nm a l)).length ≤ n + nm.size + 40 := by
  rw [Sy.text]
  have := Sy.node_len k o 0 nm.data.toList a (Sy.texts l) (by decide)
  rw [data_len] at this
  omega
theorem tl_one {e : Tr.E} {n : Nat} (h : (Sy.text e).length ≤ n) : Sy.tl (Sy.texts [e]) ≤ n + 4 := by
  rw [Sy.texts, Sy.texts, Sy.tl_cons, Sy.tl_nil]
  show (Sy.text e).length + 4 + 0 ≤ n + 4
  omega
theorem tl_two {e x : Tr.E} {n m : Nat} (h : (Sy.text e).length ≤ n) (h2 : (Sy.text x).length ≤ m) : Sy.tl (Sy.texts [e, x]) ≤ n + m + 8 := by
  rw [Sy.texts, Sy.texts, Sy.texts, Sy.tl_cons, Sy.tl_cons, Sy.tl_nil]
  show (Sy.text e).length + 4 + ((Sy.text x).length + 4 + 0) ≤ n + m + 8
  omega
end Go.Proofs.YtlgfickhkejdjaaGreatDoor
