/-
  The printer's plain and expr, walked: the text of a valid expression.
-/
import Derived.Test.YtlgfickhkejdjaaGreatDoorMSyB
namespace Go.Proofs.YtlgfickhkejdjaaGreatDoor
open Go.RowKit

theorem okE_forms {k o i : Int} {nm : ByteArray} {a : Bool} {n : Nat} (h : Tr.okE k o i nm a n = true) :
    (k = 0 ∧ n = 0 ∧ 0 ≤ i ∧ i ≤ 2305843009213693951) ∨ (k = 1 ∧ n = 0) ∨ (k = 2 ∧ n = 0) ∨ (k = 3 ∧ n = 0) ∨ (k = 4 ∧ n = 1) ∨ (k = 5 ∧ (a = true → 0 < n)) ∨ (k = 6 ∧ n = 1) ∨ (k = 7 ∧ n = 1) ∨ (k = 8 ∧ n = 1) ∨ (k = 9 ∧ n = 1) ∨ (k = 10 ∧ n = 2 ∧ 0 ≤ o ∧ o ≤ 12) := by
  unfold Tr.okE at h
  rw [Bool.and_eq_true] at h
  have h2 := h.2
  by_cases h0 : k = 0
  · rw [if_pos h0, decide_eq_true_eq] at h2; exact .inl ⟨h0, h2.1, h2.2.2.1, h2.2.2.2⟩
  rw [if_neg h0] at h2
  by_cases h0 : k = 1
  · rw [if_pos h0, decide_eq_true_eq] at h2; exact .inr (.inl ⟨h0, h2.1⟩)
  rw [if_neg h0] at h2
  by_cases h0 : k = 2
  · rw [if_pos h0, decide_eq_true_eq] at h2; exact .inr (.inr (.inl ⟨h0, h2.1⟩))
  rw [if_neg h0] at h2
  by_cases h0 : k = 3
  · rw [if_pos h0, Bool.and_eq_true, decide_eq_true_eq] at h2; exact .inr (.inr (.inr (.inl ⟨h0, h2.1⟩)))
  rw [if_neg h0] at h2
  by_cases h0 : k = 4
  · rw [if_pos h0, Bool.and_eq_true, decide_eq_true_eq] at h2; exact .inr (.inr (.inr (.inr (.inl ⟨h0, h2.1⟩))))
  rw [if_neg h0] at h2
  by_cases h0 : k = 5
  · rw [if_pos h0, Bool.and_eq_true] at h2
    refine .inr (.inr (.inr (.inr (.inr (.inl ⟨h0, fun ha => ?_⟩)))))
    rw [ha] at h2
    simpa using h2.2
  rw [if_neg h0] at h2
  by_cases h0 : k = 6
  · rw [if_pos h0, decide_eq_true_eq] at h2; exact .inr (.inr (.inr (.inr (.inr (.inr (.inl ⟨h0, h2.1⟩))))))
  rw [if_neg h0] at h2
  by_cases h0 : k = 7
  · rw [if_pos h0, decide_eq_true_eq] at h2; exact .inr (.inr (.inr (.inr (.inr (.inr (.inr (.inl ⟨h0, h2.1⟩)))))))
  rw [if_neg h0] at h2
  by_cases h0 : k = 8
  · rw [if_pos h0, decide_eq_true_eq] at h2; exact .inr (.inr (.inr (.inr (.inr (.inr (.inr (.inr (.inl ⟨h0, h2.1⟩))))))))
  rw [if_neg h0] at h2
  by_cases h0 : k = 9
  · rw [if_pos h0, decide_eq_true_eq] at h2; exact .inr (.inr (.inr (.inr (.inr (.inr (.inr (.inr (.inr (.inl ⟨h0, h2.1⟩)))))))))
  rw [if_neg h0] at h2
  by_cases h0 : k = 10
  · rw [if_pos h0, decide_eq_true_eq] at h2; exact .inr (.inr (.inr (.inr (.inr (.inr (.inr (.inr (.inr (.inr ⟨h0, h2.1, h2.2.2.1, h2.2.2.2⟩)))))))))
  rw [if_neg h0] at h2
  cases h2
theorem SlE.take {w : World} {p : Option Addr} {n c : Nat} {l : List Tr.E} (h : SlE w (.slice p n c) l) (j : Nat) (hj : j ≤ l.length) : SlE w (.slice p j c) (l.take j) := by
  generalize hv : (Value.slice p n c) = v at h
  cases h with
  | nil p c => obtain rfl : j = 0 := by simpa using hj
               exact .nil _ _
  | row b o c l A hn hm hc ha =>
    cases hv
    have e : (Value.slice (some ⟨b, o, none⟩) j c) = .slice (some ⟨b, o, none⟩) (l.take j).length c := by rw [List.length_take, Nat.min_eq_left hj]
    rw [e]
    have hs : ∀ q x, (l.take j)[q]? = some x → l[q]? = some x := fun q x hq => by
      have h1 := (List.getElem?_eq_some_iff.1 hq).1
      rw [List.getElem?_take_of_lt (by rw [List.length_take] at h1; omega)] at hq
      exact hq
    exact .row b o c _ A (by rw [List.length_take]; omega) hm (fun q x hq => hc q x (hs q x hq)) (fun q x hq => ha q x (hs q x hq))
theorem tab_keep {w w' : World} (ht : Lib.TabIs Tryz.prog w "internal/strconv.uint64pow10" .u64 Lib.pow10Tab) (hb : Below w.heap.size w w') : Lib.TabIs Tryz.prog w' "internal/strconv.uint64pow10" .u64 Lib.pow10Tab := by
  have hgn : Tryz.prog.globalNamed "internal/strconv.uint64pow10" = some 6 := by kernel_rfl
  unfold Lib.TabIs World.var? at ht ⊢
  rw [hgn] at ht ⊢
  simp only [Option.bind_some] at ht ⊢
  have hlt : 6 < w.heap.size := by
    rcases Nat.lt_or_ge 6 w.heap.size with h' | h'
    · exact h'
    · rw [Array.getElem?_eq_none h'] at ht
      simp at ht
  rw [hb.block _ hlt]
  exact ht
theorem last_parts (f : Tr.E → Nat × List UInt8) (t : Tr.E → List UInt8) (hf : ∀ e, (f e).2 = t e) (ls : List Tr.E) (M : Nat) (hN : ls.length = M + 1) (x : Tr.E) (hx : ls[M]? = some x) (d : Nat × List UInt8) : (ls.map f).dropLast.map Prod.snd = (ls.take M).map t ∧ (ls.map f).getLastD d = f x := by
  constructor
  · rw [List.dropLast_eq_take, List.length_map, hN, Nat.add_sub_cancel, ← List.map_take, List.map_map]
    exact List.map_congr_left fun e _ => hf e
  · rw [List.getLastD_eq_getLast?, List.getLast?_eq_getElem?, List.length_map, hN, Nat.add_sub_cancel, List.getElem?_map, hx]
    rfl
theorem Sy.text_mk (k o i : Int) (nm : ByteArray) (a : Bool) (ls : List Tr.E) : Sy.text (.mk k o i nm a ls) = Sy.node k o i nm.data.toList a (ls.map fun e => (Sy.level e, Sy.text e)) := by
  rw [Sy.text, Sy.texts_map]

set_option maxRecDepth 100000 in
set_option maxHeartbeats 20000000 in
theorem plain_any {w0 : World} {d : Nat} (hx : ExprC w0 d) (hE : PrEnv w0) (e : Tr.E) (p : Option Addr) (N c : Nat) (hd : e.deep ≤ d + 1) (hv : Tr.validE e = true) (hN : e.args.length = N) (hS : SlE w0 (.slice p N c) e.args) (B b : Nat) (l : List UInt8) (deep : Int) (w : World)
    (hI : PrIn w0 B b l deep w) (hlen : l.length + (Sy.text e).length ≤ 140737488355328) :
    Calls Tryz.prog 78 #[.pointer (some ⟨b, 0, none⟩), exprV e (.slice p N c)] w (PrPost B b l (Sy.text e) deep w) := by
  obtain ⟨k, o, i, nm, a, ls⟩ := e
  simp only [Tr.E.args] at hN hS
  rw [Tr.validE, Bool.and_eq_true, Tr.validEs_all, List.all_eq_true, hN] at hv
  obtain ⟨hvs, hok⟩ := hv
  have hf := okE_forms hok
  have hds : ∀ x ∈ ls, x.deep ≤ d := fun x hm => by
    obtain ⟨j, hj⟩ := List.getElem?_of_mem hm
    exact Tr.E.deep_args hd (e := .mk k o i nm a ls) hj
  rw [Sy.text_mk] at hlen ⊢
  have hcap : N ≠ 0 → N ≤ c := fun h0 => by
    obtain ⟨q1, c1, e1, h1⟩ := hS.form
    injection e1 with _ e2 e3
    have := (h1 (by rintro rfl; simp at hN; omega)).1
    omega
  have hlt := hI.lt
  obtain ⟨w1, hw1⟩ : ∃ q, q = w.alloc (.cells #[.pointer (some ⟨b, 0, none⟩)] 62) := ⟨_, rfl⟩
  obtain ⟨w2, hw2⟩ : ∃ q, q = w1.alloc (.cells #[.int .i64 k, .int .i64 o, .int .i64 i, .string nm, .bool a, .slice p N c] 24) := ⟨_, rfl⟩
  have hs1 : w1.heap.size = w.heap.size + 1 := by rw [hw1]; exact World.size_alloc _ _
  have hs2 : w2.heap.size = w.heap.size + 1 + 1 := by rw [hw2, World.size_alloc, hs1]
  have hc1 : w1.heap[w.heap.size]? = some (.cells #[.pointer (some ⟨b, 0, none⟩)] 62 (0, 0)) := by rw [hw1]; exact (MapKept.heap_alloc w _).1
  have hc2 : w2.heap[w1.heap.size]? = some (.cells #[.int .i64 k, .int .i64 o, .int .i64 i, .string nm, .bool a, .slice p N c] 24 (0, 0)) := by rw [hw2]; exact (MapKept.heap_alloc w1 _).1
  have hi1 : PrIn w0 B b l deep w1 := by rw [hw1]; exact hI.box _
  have hi2 : PrIn w0 B b l deep w2 := by rw [hw2]; exact hi1.box _
  have hk2 : Pk B b w w2 := by rw [hw2, hw1]; exact (hI.pk _).trans ((hI.box _).pk _)
  have hc1' : w2.heap[w.heap.size]? = some (.cells #[.pointer (some ⟨b, 0, none⟩)] 62 (0, 0)) := by
    have h1 := below_box w1 (.cells #[.int .i64 k, .int .i64 o, .int .i64 i, .string nm, .bool a, .slice p N c] 24)
    rw [← hw2] at h1
    exact (h1.block _ (by omega)).trans hc1
  rw [hs1] at hc2
  have HW2 : Hid (w2 = (w.alloc (.cells #[.pointer (some ⟨b, 0, none⟩)] 62)).alloc (.cells #[.int .i64 k, .int .i64 o, .int .i64 i, .string nm, .bool a, .slice p N c] 24)) := by show _ = _; rw [hw2, hw1]
  have HI := Lib.hid hi2
  have HK := Lib.hid hk2
  have HP := Lib.hid hc1'
  have HC := Lib.hid hc2
  have HS2 := Lib.hid hs2
  have HNB : Hid (w.heap.size ≠ b ∧ w.heap.size + 1 ≠ b) := ⟨by omega, by omega⟩
  have HS := Lib.hid hS
  have HX := Lib.hid hx
  have HV := Lib.hid hvs
  have HD := Lib.hid hds
  have HN := Lib.hid hN
  have HE := Lib.hid hE
  have HCAP := Lib.hid hcap
  unfold exprV
  simp only [Tr.E.kind, Tr.E.op, Tr.E.int, Tr.E.name, Tr.E.at_]
  clear hI hx hE hS hw1 hw2 hs1 hs2 hc1 hc2 hi1 hi2 hk2 hc1' hvs hds hN hd hok hcap hlt
  rcases hf with ⟨rfl, rfl, hi0, hi1⟩ | ⟨rfl, rfl⟩ | ⟨rfl, rfl⟩ | ⟨rfl, rfl⟩ | ⟨rfl, rfl⟩ | ⟨rfl, ha⟩ | ⟨rfl, rfl⟩ | ⟨rfl, rfl⟩ | ⟨rfl, rfl⟩ | ⟨rfl, rfl⟩ | ⟨rfl, rfl, ho0, ho1⟩
  · change l.length + (dec i.toNat).length ≤ _ at hlen
    show Calls _ _ _ _ (PrPost B b l (dec i.toNat) deep w)
    have HL := Lib.hid hlen
    clear hlen
    have KF : Hid (∀ W, Below w0.heap.size w0 W → Calls Tryz.prog 113 #[.int .i64 i, .int .i64 10] W fun e w' => e = .returned (.string ⟨(dec i.toNat).toArray⟩) ∧ Below W.heap.size W w') := fun W hb => fmtInt_any i W (tab_keep HE.out.tab hb) hi0 hi1
    have zp := cell_of_blkP HP.out (j := 0) (u := .pointer (some ⟨b, 0, none⟩)) rfl
    have z2 := cell_of_blkP HC.out (j := 2) (u := .int .i64 i) rfl
    go_enter Tryz.func78, Tryz.ntmps78
    go_upto_region 4 with fail
    rw [← HW2.out]
    clear HW2
    refine wp_region_held_drew (S := fun W => W.cell? ⟨w.heap.size, 0, none⟩ = some (.pointer (some ⟨b, 0, none⟩)) ∧ W.cell? ⟨w.heap.size + 1, 2, none⟩ = some (.int .i64 i) ∧ True) (by kernel_rfl) ?_ (fun hHeld => ?_)
    · exact ⟨zp, z2, trivial⟩
    have HI3 := Lib.hid HI.out.drew
    have HK3 := Lib.hid HK.out.drew
    refine wpAnyH_take (i := 0) (oi := ⟨some 11, _, _, _, _, _⟩) (v := ?_) rfl (by kernel_rfl) (by kernel_rfl) (by kernel_rfl) (fun _ _ _ h => h) (Or.inl ⟨by rfl, ?_⟩) (by assumption) ?_
    rotate_left
    · (intro w hSw; (try dsimp only at hSw); go_simp; (try with_reducible rfl))
    try simp only [Act.put, List.setIfInBounds_toArray, List.set_cons_zero, List.set_cons_succ]
    refine wpAnyH_take (i := 1) (oi := ⟨some 12, _, _, _, _, _⟩) (v := ?_) rfl (by kernel_rfl) (by kernel_rfl) (by kernel_rfl) (fun _ _ _ h => h) (Or.inl ⟨by rfl, ?_⟩) (by assumption) ?_
    rotate_left
    · (intro w hSw; (try dsimp only at hSw); go_simp; (try with_reducible rfl))
    try simp only [Act.put, List.setIfInBounds_toArray, List.set_cons_zero, List.set_cons_succ]
    refine wpAnyH_take (i := 2) (oi := ⟨some 13, _, _, _, _, _⟩) (v := ?_) rfl (by kernel_rfl) (by kernel_rfl) (by kernel_rfl) (fun _ _ _ h => h) (Or.inl ⟨by rfl, ?_⟩) (by assumption) ?_
    rotate_left
    · (intro w hSw; (try dsimp only at hSw); go_simp; (try with_reducible rfl))
    try simp only [Act.put, List.setIfInBounds_toArray, List.set_cons_zero, List.set_cons_succ]
    refine wpAnyH_ready (rs := [3]) (by kernel_rfl) (by simp) ?_
    refine AllReadyH.cons (o := ⟨some 14, _, _, _, _, _⟩) rfl (fun K hK => ?_) AllReadyH.nil
    go_simp
    with_reducible refine (KF.out _ HI3.out.base).mono ?_
    rintro e w3 ⟨rfl, hb3⟩
    go_wp2_with fail
    have HI4 := Lib.hid (HI3.out.below hb3)
    have HPa := Lib.hid ((hb3.block _ (Array.getElem?_eq_some_iff.1 HP.out).1).trans HP.out)
    have HCa := Lib.hid ((hb3.block _ (Array.getElem?_eq_some_iff.1 HC.out).1).trans HC.out)
    have HK4 := Lib.hid (HK3.out.trans (Pk.of_below hb3 HI3.out.leB))
    refine hK.out _ _ ?_ (fun hHeld => ?_)
    · exact ⟨cell_keep' hb3 hHeld.1, cell_keep' hb3 hHeld.2.1, trivial⟩
    clear hK K
    try simp only [Act.put, List.setIfInBounds_toArray, List.set_cons_zero, List.set_cons_succ]
    refine wpAnyH_ready (rs := [4]) (by kernel_rfl) (by simp) ?_
    refine AllReadyH.cons (o := ⟨some 15, _, _, _, _, _⟩) rfl (fun K hK => ?_) AllReadyH.nil
    go_simp
    have hb4 := below_box w3 (.cells #[.string ⟨(dec i.toNat).toArray⟩] 9)
    refine hK.out _ _ ?_ (fun hHeld => ?_)
    · exact ⟨cell_keep' hb4 hHeld.1, cell_keep' hb4 hHeld.2.1, trivial⟩
    clear hK K
    try simp only [Act.put, List.setIfInBounds_toArray, List.set_cons_zero, List.set_cons_succ]
    refine wpAnyH_ready (rs := [5]) (by kernel_rfl) (by simp) ?_
    refine AllReadyH.cons (o := ⟨some 16, _, _, _, _, _⟩) rfl (fun K hK => ?_) AllReadyH.nil
    have kw := wr_any HI4.out [⟨(dec i.toNat).toArray⟩] 1 #[.string ⟨(dec i.toNat).toArray⟩] (dec i.toNat) rfl rfl (by simp [flatB]) (by have hlen := HL.out; omega) (by decide)
    have KW := Lib.hid kw
    clear kw
    go_simp
    with_reducible refine KW.out.mono ?_
    rintro e w5 ⟨rfl, hs, hk⟩
    have HI5 := Lib.hid (HI4.out.next hs hk)
    have HK5 := Lib.hid (HK4.out.trans hk)
    have x1 := cell_of_blkP (hk.box HPa.out HNB.out.1 (by decide)) (j := 0) (u := .pointer (some ⟨b, 0, none⟩)) rfl
    have x2 := cell_of_blkP (hk.box HCa.out HNB.out.2 (by decide)) (j := 2) (u := .int .i64 i) rfl
    go_wp2_with fail
    refine hK.out _ _ ?_ (fun hHeld => ?_)
    · exact ⟨x1, x2, trivial⟩
    clear hK K
    try simp only [Act.put, List.setIfInBounds_toArray, List.set_cons_zero, List.set_cons_succ]
    refine wpAnyH_done (by kernel_rfl) ?_ _
    clear hHeld
    go_wp2_with fail
    go_end0
    exact ⟨rfl, by have h1 := HI5.out.st; first | exact h1 | (simp only [List.append_assoc] at h1 ⊢; exact h1) | (simp only [List.append_assoc, List.nil_append] at h1 ⊢; exact h1), HK5.out⟩
  · change l.length + ([110, 105, 108]).length ≤ _ at hlen
    show Calls _ _ _ _ (PrPost B b l ([110, 105, 108]) deep w)
    have HL := Lib.hid hlen
    clear hlen
    have kw := wr_any HI.out [⟨#[110, 105, 108]⟩] 1 #[.string ⟨#[110, 105, 108]⟩] ([110, 105, 108]) rfl rfl (by simp [flatB]) (by have hlen := HL.out; simp at hlen ⊢; omega) (by decide)
    rw [HS2.out] at kw
    have KW := Lib.hid kw
    clear kw
    have zp := cell_of_blkP HP.out (j := 0) (u := .pointer (some ⟨b, 0, none⟩)) rfl
    go_enter Tryz.func78, Tryz.ntmps78
    go_wp2_with fail
    rw [← HW2.out]
    clear HW2
    refine KW.out.mono ?_
    rintro e' w3 ⟨rfl, hs, hk⟩
    have HI3 := Lib.hid (HI.out.next hs hk)
    have HK3 := Lib.hid (HK.out.trans hk)
    have HP3 := Lib.hid (hk.box HP.out HNB.out.1 (by decide))
    have HC3 := Lib.hid (hk.box HC.out HNB.out.2 (by decide))
    clear hs hk
    clear zp
    go_wp2_with fail
    go_end0
    exact ⟨rfl, by have h1 := HI3.out.st; first | exact h1 | (simp only [List.append_assoc] at h1 ⊢; exact h1) | (simp only [List.append_assoc, List.nil_append] at h1 ⊢; exact h1), HK3.out⟩
  · change l.length + ([116, 104, 105, 115]).length ≤ _ at hlen
    show Calls _ _ _ _ (PrPost B b l ([116, 104, 105, 115]) deep w)
    have HL := Lib.hid hlen
    clear hlen
    have kw := wr_any HI.out [⟨#[116, 104, 105, 115]⟩] 1 #[.string ⟨#[116, 104, 105, 115]⟩] ([116, 104, 105, 115]) rfl rfl (by simp [flatB]) (by have hlen := HL.out; simp at hlen ⊢; omega) (by decide)
    rw [HS2.out] at kw
    have KW := Lib.hid kw
    clear kw
    have zp := cell_of_blkP HP.out (j := 0) (u := .pointer (some ⟨b, 0, none⟩)) rfl
    go_enter Tryz.func78, Tryz.ntmps78
    go_wp2_with fail
    rw [← HW2.out]
    clear HW2
    refine KW.out.mono ?_
    rintro e' w3 ⟨rfl, hs, hk⟩
    have HI3 := Lib.hid (HI.out.next hs hk)
    have HK3 := Lib.hid (HK.out.trans hk)
    have HP3 := Lib.hid (hk.box HP.out HNB.out.1 (by decide))
    have HC3 := Lib.hid (hk.box HC.out HNB.out.2 (by decide))
    clear hs hk
    clear zp
    go_wp2_with fail
    go_end0
    exact ⟨rfl, by have h1 := HI3.out.st; first | exact h1 | (simp only [List.append_assoc] at h1 ⊢; exact h1) | (simp only [List.append_assoc, List.nil_append] at h1 ⊢; exact h1), HK3.out⟩
  · change l.length + (nm.data.toList).length ≤ _ at hlen
    show Calls _ _ _ _ (PrPost B b l (nm.data.toList) deep w)
    have HL := Lib.hid hlen
    clear hlen
    have kw := wr_any HI.out [nm] 1 #[.string nm] (nm.data.toList) rfl rfl (by simp [flatB]) (by have hlen := HL.out; omega) (by decide)
    rw [HS2.out] at kw
    have KW := Lib.hid kw
    clear kw
    have zp := cell_of_blkP HP.out (j := 0) (u := .pointer (some ⟨b, 0, none⟩)) rfl
    have z3 := cell_of_blkP HC.out (j := 3) (u := .string nm) rfl
    go_enter Tryz.func78, Tryz.ntmps78
    go_wp2_with fail
    rw [← HW2.out]
    clear HW2
    refine KW.out.mono ?_
    rintro e' w3 ⟨rfl, hs, hk⟩
    have HI3 := Lib.hid (HI.out.next hs hk)
    have HK3 := Lib.hid (HK.out.trans hk)
    have HP3 := Lib.hid (hk.box HP.out HNB.out.1 (by decide))
    have HC3 := Lib.hid (hk.box HC.out HNB.out.2 (by decide))
    clear hs hk
    clear zp z3
    go_wp2_with fail
    go_end0
    exact ⟨rfl, by have h1 := HI3.out.st; first | exact h1 | (simp only [List.append_assoc] at h1 ⊢; exact h1) | (simp only [List.append_assoc, List.nil_append] at h1 ⊢; exact h1), HK3.out⟩
  · obtain ⟨x, rfl⟩ : ∃ x, ls = [x] := by
      match ls, HN.out with
      | [x], _ => exact ⟨x, rfl⟩
    change l.length + (Sy.par 8 (Sy.level x, Sy.text x) ++ [46] ++ nm.data.toList).length ≤ _ at hlen
    show Calls _ _ _ _ (PrPost B b l (Sy.par 8 (Sy.level x, Sy.text x) ++ [46] ++ nm.data.toList) deep w)
    have HL := Lib.hid hlen
    clear hlen
    have kp := prefix_any HX.out (.mk 4 o i nm a [x]) x rfl (HD.out x (by simp)) (HV.out x (by simp)) p 1 c HS.out ⟨#[]⟩ 8 w.heap.size (w.heap.size + 1) B b l deep w2 HI.out HP.out HC.out HNB.out.1 HNB.out.2 (by have hlen := HL.out; simp only [List.length_append, List.length_cons, List.length_nil] at hlen ⊢; omega)
    have KP := Lib.hid kp
    clear kp
    go_enter Tryz.func78, Tryz.ntmps78
    go_wp2_with fail
    rw [← HW2.out]
    clear HW2
    refine KP.out.mono ?_
    rintro e' w3 ⟨rfl, hs, hk⟩
    have HI3 := Lib.hid (HI.out.next hs hk)
    have HK3 := Lib.hid (HK.out.trans hk)
    have HP3 := Lib.hid (hk.box HP.out HNB.out.1 (by decide))
    have HC3 := Lib.hid (hk.box HC.out HNB.out.2 (by decide))
    clear hs hk
    have kw := wr_any HI3.out [⟨#[46]⟩, nm] 2 #[.string ⟨#[46]⟩, .string nm] ([46] ++ nm.data.toList) rfl rfl (by simp [flatB]) (by have hlen := HL.out; simp only [List.length_append, List.length_cons, List.length_nil] at hlen ⊢; omega) (by decide)
    have KW := Lib.hid kw
    clear kw
    have zp := cell_of_blkP HP3.out (j := 0) (u := .pointer (some ⟨b, 0, none⟩)) rfl
    have z3 := cell_of_blkP HC3.out (j := 3) (u := .string nm) rfl
    go_wp2_with fail
    refine KW.out.mono ?_
    rintro e' w4 ⟨rfl, hs, hk⟩
    have HI4 := Lib.hid (HI3.out.next hs hk)
    have HK4 := Lib.hid (HK3.out.trans hk)
    have HP4 := Lib.hid (hk.box HP3.out HNB.out.1 (by decide))
    have HC4 := Lib.hid (hk.box HC3.out HNB.out.2 (by decide))
    clear hs hk
    clear zp z3
    go_wp2_with fail
    go_end0
    exact ⟨rfl, by have h1 := HI4.out.st; first | exact h1 | (simp only [List.append_assoc] at h1 ⊢; exact h1) | (simp only [List.append_assoc, List.nil_append] at h1 ⊢; exact h1), HK4.out⟩
  · cases a
    · change l.length + ([110, 101, 119, 32] ++ nm.data.toList ++ [40] ++ Sy.commas ((ls.map fun e => (Sy.level e, Sy.text e)).map Prod.snd) ++ [41]).length ≤ _ at hlen
      show Calls _ _ _ _ (PrPost B b l ([110, 101, 119, 32] ++ nm.data.toList ++ [40] ++ Sy.commas ((ls.map fun e => (Sy.level e, Sy.text e)).map Prod.snd) ++ [41]) deep w)
      have HL := Lib.hid hlen
      clear hlen
      have hms : ((ls.map fun e => (Sy.level e, Sy.text e)).map Prod.snd) = ls.map Sy.text := by rw [List.map_map]; rfl
      have hlen := HL.out
      clear HL
      rw [hms] at hlen ⊢
      have HL := Lib.hid hlen
      clear hlen hms
      have kw := wr_any HI.out [⟨#[110, 101, 119, 32]⟩, nm] 2 #[.string ⟨#[110, 101, 119, 32]⟩, .string nm] ([110, 101, 119, 32] ++ nm.data.toList) rfl rfl (by simp [flatB]) (by have hlen := HL.out; simp only [List.length_append, List.length_cons, List.length_nil] at hlen ⊢; omega) (by decide)
      rw [HS2.out] at kw
      have KW := Lib.hid kw
      clear kw
      have zp := cell_of_blkP HP.out (j := 0) (u := .pointer (some ⟨b, 0, none⟩)) rfl
      have z3 := cell_of_blkP HC.out (j := 3) (u := .string nm) rfl
      go_enter Tryz.func78, Tryz.ntmps78
      go_wp2_with fail
      rw [← HW2.out]
      clear HW2
      refine KW.out.mono ?_
      rintro e' w3 ⟨rfl, hs, hk⟩
      have HI3 := Lib.hid (HI.out.next hs hk)
      have HK3 := Lib.hid (HK.out.trans hk)
      have HP3 := Lib.hid (hk.box HP.out HNB.out.1 (by decide))
      have HC3 := Lib.hid (hk.box HC.out HNB.out.2 (by decide))
      clear hs hk
      clear zp z3
      have zp := cell_of_blkP HP3.out (j := 0) (u := .pointer (some ⟨b, 0, none⟩)) rfl
      have z4 := cell_of_blkP HC3.out (j := 4) (u := .bool false) rfl
      have z5 := cell_of_blkP HC3.out (j := 5) (u := .slice p N c) rfl
      have KL := Lib.hid (list_any HX.out ls HD.out HV.out p N c HN.out HS.out B b _ deep w3 HI3.out (by have hlen := HL.out; simp only [List.length_append, List.length_cons, List.length_nil] at hlen ⊢; omega))
      go_wp2_with fail
      refine KL.out.mono ?_
      rintro e' w4 ⟨rfl, hs, hk⟩
      have HI4 := Lib.hid (HI3.out.next hs hk)
      have HK4 := Lib.hid (HK3.out.trans hk)
      have HP4 := Lib.hid (hk.box HP3.out HNB.out.1 (by decide))
      have HC4 := Lib.hid (hk.box HC3.out HNB.out.2 (by decide))
      clear hs hk
      clear zp z4 z5
      have z4 := cell_of_blkP HC4.out (j := 4) (u := .bool false) rfl
      go_wp2_with fail
      go_end0
      exact ⟨rfl, by have h1 := HI4.out.st; first | exact h1 | (simp only [List.append_assoc] at h1 ⊢; exact h1) | (simp only [List.append_assoc, List.nil_append] at h1 ⊢; exact h1), HK4.out⟩
    · have hn0 := ha rfl
      obtain ⟨M, rfl⟩ : ∃ M, N = M + 1 := ⟨N - 1, by omega⟩
      obtain ⟨x, hx⟩ : ∃ x, ls[M]? = some x := ⟨_, List.getElem?_eq_getElem (by rw [HN.out]; omega)⟩
      have hlp := last_parts (fun e => (Sy.level e, Sy.text e)) Sy.text (fun _ => rfl) ls M HN.out x hx (9, [])
      obtain ⟨b', o', aa, rfl, _, hc, hbd, hsl⟩ := HS.out.get hx
      obtain ⟨pa, ca, rfl, _⟩ := hsl.form
      obtain ⟨AN, hAN⟩ : ∃ q, x.args.length = q := ⟨_, rfl⟩
      rw [hAN] at hsl hc
      have hm := List.mem_of_getElem? hx
      have hts := HS.out.take M (by rw [HN.out]; omega)
      have HXX : Hid (∀ W l', PrIn w0 B b l' deep W → l'.length + (Sy.par 7 (Sy.level x, Sy.text x)).length ≤ 140737488355328 → Calls Tryz.prog 42 #[.pointer (some ⟨b, 0, none⟩), exprV x (.slice pa AN ca), .int .i64 7] W (PrPost B b l' (Sy.par 7 (Sy.level x, Sy.text x)) deep W)) := fun W l' h1 h2 => HX.out x pa AN ca B b l' deep W 7 (HD.out x hm) (HV.out x hm) hAN hsl h1 h2
      have HTS := Lib.hid hts
      have HCX := Lib.hid hc
      have hmc : M + 1 ≤ c := HCAP.out (by omega)
      have hml : M + 1 ≤ 9223372036854775807 := by have := HS.out.len; rw [HN.out] at this; unfold maxLen at this; exact this
      have HTN : Hid ((ls.take M).length = M) := by show _ = _; rw [List.length_take, HN.out]; omega
      rw [Sy.node, if_neg (by decide), if_neg (by decide), if_neg (by decide), if_neg (by decide), if_neg (by decide), if_pos rfl, if_pos rfl, hlp.1, hlp.2] at hlen
      rw [Sy.node, if_neg (by decide), if_neg (by decide), if_neg (by decide), if_neg (by decide), if_neg (by decide), if_pos rfl, if_pos rfl, hlp.1, hlp.2]
      have HL := Lib.hid hlen
      clear hlen hlp hx hc hbd hsl hm hts hAN
      have kw := wr_any HI.out [⟨#[110, 101, 119, 32]⟩, nm] 2 #[.string ⟨#[110, 101, 119, 32]⟩, .string nm] ([110, 101, 119, 32] ++ nm.data.toList) rfl rfl (by simp [flatB]) (by have hlen := HL.out; simp only [List.length_append, List.length_cons, List.length_nil] at hlen ⊢; omega) (by decide)
      rw [HS2.out] at kw
      have KW := Lib.hid kw
      clear kw
      have zp := cell_of_blkP HP.out (j := 0) (u := .pointer (some ⟨b, 0, none⟩)) rfl
      have z3 := cell_of_blkP HC.out (j := 3) (u := .string nm) rfl
      go_enter Tryz.func78, Tryz.ntmps78
      go_wp2_with fail
      rw [← HW2.out]
      clear HW2
      refine KW.out.mono ?_
      rintro e' w3 ⟨rfl, hs, hk⟩
      have HI3 := Lib.hid (HI.out.next hs hk)
      have HK3 := Lib.hid (HK.out.trans hk)
      have HP3 := Lib.hid (hk.box HP.out HNB.out.1 (by decide))
      have HC3 := Lib.hid (hk.box HC.out HNB.out.2 (by decide))
      clear hs hk
      clear zp z3
      have zp := cell_of_blkP HP3.out (j := 0) (u := .pointer (some ⟨b, 0, none⟩)) rfl
      have z4 := cell_of_blkP HC3.out (j := 4) (u := .bool true) rfl
      have z5 := cell_of_blkP HC3.out (j := 5) (u := .slice (some ⟨b', o', none⟩) (M + 1) c) rfl
      have KL := Lib.hid (list_any HX.out (ls.take M) (fun y hy => HD.out y (List.mem_of_mem_take hy)) (fun y hy => HV.out y (List.mem_of_mem_take hy)) _ M c HTN.out HTS.out B b _ deep w3 HI3.out (by have hlen := HL.out; simp only [List.length_append, List.length_cons, List.length_nil] at hlen ⊢; omega))
      have bw : IntKind.i64.wrap (((M : Int) + 1) - 1) = (M : Int) := by rw [show ((M : Int) + 1) - 1 = (M : Int) by omega]; exact IntWalk.i64_in _ (by omega)
      have bm : M ≤ c := by omega
      go_wp2_with fail
      refine KL.out.mono ?_
      rintro e' w4 ⟨rfl, hs, hk⟩
      have HI4 := Lib.hid (HI3.out.next hs hk)
      have HK4 := Lib.hid (HK3.out.trans hk)
      have HP4 := Lib.hid (hk.box HP3.out HNB.out.1 (by decide))
      have HC4 := Lib.hid (hk.box HC3.out HNB.out.2 (by decide))
      clear hs hk
      clear zp z4 z5
      clear bw bm
      have zp := cell_of_blkP HP4.out (j := 0) (u := .pointer (some ⟨b, 0, none⟩)) rfl
      have z4 := cell_of_blkP HC4.out (j := 4) (u := .bool true) rfl
      have kw := wr_any HI4.out [⟨#[32, 97, 116, 32]⟩] 1 #[.string ⟨#[32, 97, 116, 32]⟩] ([32, 97, 116, 32]) rfl rfl (by simp [flatB]) (by have hlen := HL.out; simp only [List.length_append, List.length_cons, List.length_nil] at hlen ⊢; omega) (by decide)
      have KW := Lib.hid kw
      clear kw
      go_wp2_with fail
      refine KW.out.mono ?_
      rintro e' w5 ⟨rfl, hs, hk⟩
      have HI5 := Lib.hid (HI4.out.next hs hk)
      have HK5 := Lib.hid (HK4.out.trans hk)
      have HP5 := Lib.hid (hk.box HP4.out HNB.out.1 (by decide))
      have HC5 := Lib.hid (hk.box HC4.out HNB.out.2 (by decide))
      clear hs hk
      clear zp z4
      have zp := cell_of_blkP HP5.out (j := 0) (u := .pointer (some ⟨b, 0, none⟩)) rfl
      have z5 := cell_of_blkP HC5.out (j := 5) (u := .slice (some ⟨b', o', none⟩) (M + 1) c) rfl
      obtain ⟨y0, y1, y2, y3, y4, y5⟩ := HCX.out.keep HI5.out.base
      have hl1 := cell_lt' z5
      have hl2 := cell_lt' y0
      have b3 : (M : Int) < (M : Int) + 1 := by omega
      have b5 : (0 : Int) ≤ (M : Int) := by omega
      go_wp2_with fail
      go_still_tail 7, (by kernel_rfl)
      change wpList _ _ _ _ _ w5.drew
      have HI6 := Lib.hid HI5.out.drew
      have HK6 := Lib.hid HK5.out.drew
      obtain ⟨w6, hw6⟩ : ∃ q, q = w5.drew := ⟨_, rfl⟩
      rw [← hw6] at HI6 HK6 ⊢
      clear hw6 y0 y1 y2 y3 y4 y5 hl1 hl2 b3 b5 zp z5
      have hcall := HXX.out w6 _ HI6.out (by have hlen := HL.out; simp only [List.length_append, List.length_cons, List.length_nil] at hlen ⊢; omega)
      unfold exprV at hcall
      have HCALL := Lib.hid hcall
      clear hcall
      go_wp2_with fail
      refine HCALL.out.mono ?_
      rintro e' w7 ⟨rfl, hs, hk⟩
      have HI7 := Lib.hid (HI6.out.next hs hk)
      have HK7 := Lib.hid (HK6.out.trans hk)
      clear hs hk
      go_wp2_with fail
      go_end0
      exact ⟨rfl, by have h1 := HI7.out.st; first | exact h1 | (simp only [List.append_assoc] at h1 ⊢; exact h1) | (simp only [List.append_assoc, List.nil_append] at h1 ⊢; exact h1), HK7.out⟩
  · obtain ⟨x, rfl⟩ : ∃ x, ls = [x] := by
      match ls, HN.out with
      | [x], _ => exact ⟨x, rfl⟩
    change l.length + ([119, 101, 97, 107, 32] ++ Sy.par 7 (Sy.level x, Sy.text x)).length ≤ _ at hlen
    show Calls _ _ _ _ (PrPost B b l ([119, 101, 97, 107, 32] ++ Sy.par 7 (Sy.level x, Sy.text x)) deep w)
    have HL := Lib.hid hlen
    clear hlen
    have kp := prefix_any HX.out (.mk 6 o i nm a [x]) x rfl (HD.out x (by simp)) (HV.out x (by simp)) p 1 c HS.out ⟨#[119, 101, 97, 107, 32]⟩ 7 w.heap.size (w.heap.size + 1) B b l deep w2 HI.out HP.out HC.out HNB.out.1 HNB.out.2 (by have hlen := HL.out; simp only [List.length_append, List.length_cons, List.length_nil] at hlen ⊢; omega)
    have KP := Lib.hid kp
    clear kp
    go_enter Tryz.func78, Tryz.ntmps78
    go_wp2_with fail
    rw [← HW2.out]
    clear HW2
    refine KP.out.mono ?_
    rintro e' w3 ⟨rfl, hs, hk⟩
    have HI3 := Lib.hid (HI.out.next hs hk)
    have HK3 := Lib.hid (HK.out.trans hk)
    have HP3 := Lib.hid (hk.box HP.out HNB.out.1 (by decide))
    have HC3 := Lib.hid (hk.box HC.out HNB.out.2 (by decide))
    clear hs hk
    go_wp2_with fail
    go_end0
    exact ⟨rfl, by have h1 := HI3.out.st; first | exact h1 | (simp only [List.append_assoc] at h1 ⊢; exact h1) | (simp only [List.append_assoc, List.nil_append] at h1 ⊢; exact h1), HK3.out⟩
  · obtain ⟨x, rfl⟩ : ∃ x, ls = [x] := by
      match ls, HN.out with
      | [x], _ => exact ⟨x, rfl⟩
    change l.length + ([103, 101, 116, 32] ++ Sy.par 7 (Sy.level x, Sy.text x)).length ≤ _ at hlen
    show Calls _ _ _ _ (PrPost B b l ([103, 101, 116, 32] ++ Sy.par 7 (Sy.level x, Sy.text x)) deep w)
    have HL := Lib.hid hlen
    clear hlen
    have kp := prefix_any HX.out (.mk 7 o i nm a [x]) x rfl (HD.out x (by simp)) (HV.out x (by simp)) p 1 c HS.out ⟨#[103, 101, 116, 32]⟩ 7 w.heap.size (w.heap.size + 1) B b l deep w2 HI.out HP.out HC.out HNB.out.1 HNB.out.2 (by have hlen := HL.out; simp only [List.length_append, List.length_cons, List.length_nil] at hlen ⊢; omega)
    have KP := Lib.hid kp
    clear kp
    go_enter Tryz.func78, Tryz.ntmps78
    go_wp2_with fail
    rw [← HW2.out]
    clear HW2
    refine KP.out.mono ?_
    rintro e' w3 ⟨rfl, hs, hk⟩
    have HI3 := Lib.hid (HI.out.next hs hk)
    have HK3 := Lib.hid (HK.out.trans hk)
    have HP3 := Lib.hid (hk.box HP.out HNB.out.1 (by decide))
    have HC3 := Lib.hid (hk.box HC.out HNB.out.2 (by decide))
    clear hs hk
    go_wp2_with fail
    go_end0
    exact ⟨rfl, by have h1 := HI3.out.st; first | exact h1 | (simp only [List.append_assoc] at h1 ⊢; exact h1) | (simp only [List.append_assoc, List.nil_append] at h1 ⊢; exact h1), HK3.out⟩
  · obtain ⟨x, rfl⟩ : ∃ x, ls = [x] := by
      match ls, HN.out with
      | [x], _ => exact ⟨x, rfl⟩
    change l.length + ([45] ++ Sy.par 7 (Sy.level x, Sy.text x)).length ≤ _ at hlen
    show Calls _ _ _ _ (PrPost B b l ([45] ++ Sy.par 7 (Sy.level x, Sy.text x)) deep w)
    have HL := Lib.hid hlen
    clear hlen
    have kp := prefix_any HX.out (.mk 8 o i nm a [x]) x rfl (HD.out x (by simp)) (HV.out x (by simp)) p 1 c HS.out ⟨#[45]⟩ 7 w.heap.size (w.heap.size + 1) B b l deep w2 HI.out HP.out HC.out HNB.out.1 HNB.out.2 (by have hlen := HL.out; simp only [List.length_append, List.length_cons, List.length_nil] at hlen ⊢; omega)
    have KP := Lib.hid kp
    clear kp
    go_enter Tryz.func78, Tryz.ntmps78
    go_wp2_with fail
    rw [← HW2.out]
    clear HW2
    refine KP.out.mono ?_
    rintro e' w3 ⟨rfl, hs, hk⟩
    have HI3 := Lib.hid (HI.out.next hs hk)
    have HK3 := Lib.hid (HK.out.trans hk)
    have HP3 := Lib.hid (hk.box HP.out HNB.out.1 (by decide))
    have HC3 := Lib.hid (hk.box HC.out HNB.out.2 (by decide))
    clear hs hk
    go_wp2_with fail
    go_end0
    exact ⟨rfl, by have h1 := HI3.out.st; first | exact h1 | (simp only [List.append_assoc] at h1 ⊢; exact h1) | (simp only [List.append_assoc, List.nil_append] at h1 ⊢; exact h1), HK3.out⟩
  · obtain ⟨x, rfl⟩ : ∃ x, ls = [x] := by
      match ls, HN.out with
      | [x], _ => exact ⟨x, rfl⟩
    change l.length + ([110, 111, 116, 32] ++ Sy.par 3 (Sy.level x, Sy.text x)).length ≤ _ at hlen
    show Calls _ _ _ _ (PrPost B b l ([110, 111, 116, 32] ++ Sy.par 3 (Sy.level x, Sy.text x)) deep w)
    have HL := Lib.hid hlen
    clear hlen
    have kp := prefix_any HX.out (.mk 9 o i nm a [x]) x rfl (HD.out x (by simp)) (HV.out x (by simp)) p 1 c HS.out ⟨#[110, 111, 116, 32]⟩ 3 w.heap.size (w.heap.size + 1) B b l deep w2 HI.out HP.out HC.out HNB.out.1 HNB.out.2 (by have hlen := HL.out; simp only [List.length_append, List.length_cons, List.length_nil] at hlen ⊢; omega)
    have KP := Lib.hid kp
    clear kp
    go_enter Tryz.func78, Tryz.ntmps78
    go_wp2_with fail
    rw [← HW2.out]
    clear HW2
    refine KP.out.mono ?_
    rintro e' w3 ⟨rfl, hs, hk⟩
    have HI3 := Lib.hid (HI.out.next hs hk)
    have HK3 := Lib.hid (HK.out.trans hk)
    have HP3 := Lib.hid (hk.box HP.out HNB.out.1 (by decide))
    have HC3 := Lib.hid (hk.box HC.out HNB.out.2 (by decide))
    clear hs hk
    go_wp2_with fail
    go_end0
    exact ⟨rfl, by have h1 := HI3.out.st; first | exact h1 | (simp only [List.append_assoc] at h1 ⊢; exact h1) | (simp only [List.append_assoc, List.nil_append] at h1 ⊢; exact h1), HK3.out⟩
  · obtain ⟨x, y, rfl⟩ : ∃ x y, ls = [x, y] := by
      match ls, HN.out with
      | [x, y], _ => exact ⟨x, y, rfl⟩
    obtain ⟨O, rfl⟩ : ∃ q : Nat, o = q := ⟨o.toNat, by omega⟩
    rw [← Sy.text_mk 10 O i nm a [x, y]] at hlen ⊢
    have KB := Lib.hid (binary_any HX.out HE.out O (by omega) i nm a x y (HD.out x (by simp)) (HD.out y (by simp)) (HV.out x (by simp)) (HV.out y (by simp)) p c HS.out B b l deep w2 HI.out hlen)
    clear hlen
    have zp := cell_of_blkP HP.out (j := 0) (u := .pointer (some ⟨b, 0, none⟩)) rfl
    have z0 := cell_of_blkP HC.out (j := 0) (u := .int .i64 10) rfl
    have z1 := cell_of_blkP HC.out (j := 1) (u := .int .i64 O) rfl
    have z2 := cell_of_blkP HC.out (j := 2) (u := .int .i64 i) rfl
    have z3 := cell_of_blkP HC.out (j := 3) (u := .string nm) rfl
    have z4 := cell_of_blkP HC.out (j := 4) (u := .bool a) rfl
    have z5 := cell_of_blkP HC.out (j := 5) (u := .slice p 2 c) rfl
    unfold exprV at KB
    simp only [Tr.E.kind, Tr.E.op, Tr.E.int, Tr.E.name, Tr.E.at_] at KB
    go_enter Tryz.func78, Tryz.ntmps78
    go_wp2_with fail
    rw [← HW2.out]
    clear HW2
    refine KB.out.mono ?_
    rintro e' w3 ⟨rfl, hs, hk⟩
    have HI3 := Lib.hid (HI.out.next hs hk)
    have HK3 := Lib.hid (HK.out.trans hk)
    have HP3 := Lib.hid (hk.box HP.out HNB.out.1 (by decide))
    have HC3 := Lib.hid (hk.box HC.out HNB.out.2 (by decide))
    clear hs hk
    clear zp z0 z1 z2 z3 z4 z5
    go_wp2_with fail
    go_end0
    exact ⟨rfl, by have h1 := HI3.out.st; first | exact h1 | (simp only [List.append_assoc] at h1 ⊢; exact h1) | (simp only [List.append_assoc, List.nil_append] at h1 ⊢; exact h1), HK3.out⟩
end Go.Proofs.YtlgfickhkejdjaaGreatDoor
