/-
  The printer's simple and the closure around it, walked: a statement without a block.
-/
import Derived.Test.YtlgfickhkejdjaaGreatDoorMSyC
namespace Go.Proofs.YtlgfickhkejdjaaGreatDoor
open Go.RowKit

theorem okS_forms {k : Int} {nm : ByteArray} {n nb ne : Nat} (h : Tr.okS k nm n nb ne = true) (h3 : k ≠ 3) (h4 : k ≠ 4) :
    (k = 0 ∧ n = 1) ∨ (k = 1 ∧ n = 1) ∨ (k = 2 ∧ n = 2) ∨ (k = 5 ∧ 1 ≤ n) ∨ (k = 6 ∧ n = 1) ∨ (k = 7 ∧ n = 2) ∨ (k = 8 ∧ n = 2) ∨ (k = 9 ∧ n = 0) := by
  unfold Tr.okS at h
  by_cases h0 : k = 0
  · rw [if_pos h0, Bool.and_eq_true, decide_eq_true_eq] at h; exact .inl ⟨h0, h.1.1⟩
  rw [if_neg h0] at h
  by_cases h0 : k = 1
  · rw [if_pos h0, Bool.and_eq_true, decide_eq_true_eq] at h; exact .inr (.inl ⟨h0, h.1.1⟩)
  rw [if_neg h0] at h
  by_cases h0 : k = 2
  · rw [if_pos h0, Bool.and_eq_true, decide_eq_true_eq] at h; exact .inr (.inr (.inl ⟨h0, h.1.1⟩))
  rw [if_neg h0, if_neg h3, if_neg h4] at h
  by_cases h0 : k = 5
  · rw [if_pos h0, Bool.and_eq_true, decide_eq_true_eq] at h; exact .inr (.inr (.inr (.inl ⟨h0, h.1.1⟩)))
  rw [if_neg h0] at h
  by_cases h0 : k = 6
  · rw [if_pos h0, decide_eq_true_eq] at h; exact .inr (.inr (.inr (.inr (.inl ⟨h0, h.1⟩))))
  rw [if_neg h0] at h
  by_cases h0 : k = 7
  · rw [if_pos h0, decide_eq_true_eq] at h; exact .inr (.inr (.inr (.inr (.inr (.inl ⟨h0, h.1⟩)))))
  rw [if_neg h0] at h
  by_cases h0 : k = 8
  · rw [if_pos h0, Bool.and_eq_true, decide_eq_true_eq] at h; exact .inr (.inr (.inr (.inr (.inr (.inr (.inl ⟨h0, h.1.1⟩))))))
  rw [if_neg h0] at h
  by_cases h0 : k = 9
  · rw [if_pos h0, decide_eq_true_eq] at h; exact .inr (.inr (.inr (.inr (.inr (.inr (.inr ⟨h0, h.1⟩))))))
  rw [if_neg h0] at h
  cases h
theorem SlE.tail {w : World} {b o n c : Nat} {l : List Tr.E} (h : SlE w (.slice (some ⟨b, o, none⟩) n c) l) (hn : 1 ≤ l.length) : SlE w (.slice (if c = 1 then some ⟨b, o, none⟩ else some ⟨b, o + 6, none⟩) (n - 1) (c - 1)) (l.drop 1) := by
  generalize hv : (Value.slice (some ⟨b, o, none⟩) n c) = v at h
  cases h with
  | nil p c => simp at hn
  | row b o c l A hn2 hm hc ha =>
    cases hv
    by_cases e : c = 1
    · have h1 : l.drop 1 = [] := List.drop_eq_nil_of_le (by omega)
      rw [if_pos e, h1, show l.length - 1 = 0 by omega]
      exact .nil _ _
    · rw [if_neg e]
      have e2 : (Value.slice (some ⟨b, o + 6, none⟩) (l.length - 1) (c - 1)) = .slice (some ⟨b, o + 6, none⟩) (l.drop 1).length (c - 1) := by rw [List.length_drop]
      rw [e2]
      have hs : ∀ q x, (l.drop 1)[q]? = some x → l[q + 1]? = some x := fun q x hq => by rw [List.getElem?_drop] at hq; rw [Nat.add_comm]; exact hq
      exact .row b (o + 6) (c - 1) _ (fun q => A (q + 1)) (by rw [List.length_drop]; omega) (by omega) (fun q x hq => by
        have h1 := hc (q + 1) x (hs q x hq)
        rw [show o + (q + 1) * 6 = o + 6 + q * 6 by omega] at h1
        exact h1) (fun q x hq => ha (q + 1) x (hs q x hq))

set_option maxRecDepth 100000 in
set_option maxHeartbeats 20000000 in
theorem simple_any {w0 : World} (hE : PrEnv w0) (s : Tr.S) (hvs : Tr.validS s = true) (h3 : s.kind ≠ 3) (h4 : s.kind ≠ 4) (px py pz : Option Addr) (XN cx YN cy ZN cz : Nat) (hN : s.exprs.length = XN) (hS : SlE w0 (.slice px XN cx) s.exprs) (B b : Nat) (l : List UInt8) (deep : Int) (w : World) (hI : PrIn w0 B b l deep w)
    (hlen : l.length + (Sy.simple s.kind s.name.data.toList (Sy.texts s.exprs)).length ≤ 140737488355328) :
    Calls Tryz.prog 144 #[.pointer (some ⟨b, 0, none⟩), stmtV s (.slice px XN cx) (.slice py YN cy) (.slice pz ZN cz)] w (PrPost B b l (Sy.simple s.kind s.name.data.toList (Sy.texts s.exprs)) deep w) := by
  obtain ⟨k, nm, xs, bd, el⟩ := s
  simp only [Tr.S.kind, Tr.S.name, Tr.S.exprs] at h3 h4 hN hS hlen ⊢
  rw [Tr.validS] at hvs
  simp only [Bool.and_eq_true] at hvs
  obtain ⟨⟨⟨hvx, hok⟩, _⟩, _⟩ := hvs
  rw [Tr.validEs_all, List.all_eq_true] at hvx
  rw [hN] at hok
  have hf := okS_forms hok h3 h4
  rw [Sy.texts_map] at hlen ⊢
  have hlt := hI.lt
  obtain ⟨w1, hw1⟩ : ∃ q, q = w.alloc (.cells #[.pointer (some ⟨b, 0, none⟩)] 62) := ⟨_, rfl⟩
  obtain ⟨w2, hw2⟩ : ∃ q, q = w1.alloc (.cells #[.int .i64 k, .string nm, .slice px XN cx, .slice py YN cy, .slice pz ZN cz] 46) := ⟨_, rfl⟩
  have hs1 : w1.heap.size = w.heap.size + 1 := by rw [hw1]; exact World.size_alloc _ _
  have hs2 : w2.heap.size = w.heap.size + 1 + 1 := by rw [hw2, World.size_alloc, hs1]
  have hc1 : w1.heap[w.heap.size]? = some (.cells #[.pointer (some ⟨b, 0, none⟩)] 62 (0, 0)) := by rw [hw1]; exact (MapKept.heap_alloc w _).1
  have hc2 : w2.heap[w1.heap.size]? = some (.cells #[.int .i64 k, .string nm, .slice px XN cx, .slice py YN cy, .slice pz ZN cz] 46 (0, 0)) := by rw [hw2]; exact (MapKept.heap_alloc w1 _).1
  have hi1 : PrIn w0 B b l deep w1 := by rw [hw1]; exact hI.box _
  have hi2 : PrIn w0 B b l deep w2 := by rw [hw2]; exact hi1.box _
  have hk2 : Pk B b w w2 := by rw [hw2, hw1]; exact (hI.pk _).trans ((hI.box _).pk _)
  have hc1' : w2.heap[w.heap.size]? = some (.cells #[.pointer (some ⟨b, 0, none⟩)] 62 (0, 0)) := by
    have h1 := below_box w1 (.cells #[.int .i64 k, .string nm, .slice px XN cx, .slice py YN cy, .slice pz ZN cz] 46)
    rw [← hw2] at h1
    exact (h1.block _ (by omega)).trans hc1
  rw [hs1] at hc2
  have HW2 : Hid (w2 = (w.alloc (.cells #[.pointer (some ⟨b, 0, none⟩)] 62)).alloc (.cells #[.int .i64 k, .string nm, .slice px XN cx, .slice py YN cy, .slice pz ZN cz] 46)) := by show _ = _; rw [hw2, hw1]
  have HI := Lib.hid hi2
  have HK := Lib.hid hk2
  have HP := Lib.hid hc1'
  have HC := Lib.hid hc2
  have HS2 := Lib.hid hs2
  have HNB : Hid (w.heap.size ≠ b ∧ w.heap.size + 1 ≠ b) := ⟨by omega, by omega⟩
  have HS := Lib.hid hS
  have HV := Lib.hid hvx
  have HN := Lib.hid hN
  have HE := Lib.hid hE
  unfold stmtV
  simp only [Tr.S.kind, Tr.S.name]
  clear hI hE hS hw1 hw2 hs1 hs2 hc1 hc2 hi1 hi2 hk2 hc1' hvx hN hok hlt h3 h4
  rcases hf with ⟨rfl, rfl⟩ | ⟨rfl, rfl⟩ | ⟨rfl, rfl⟩ | ⟨rfl, hn1⟩ | ⟨rfl, rfl⟩ | ⟨rfl, rfl⟩ | ⟨rfl, rfl⟩ | ⟨rfl, rfl⟩
  · obtain ⟨x, rfl⟩ : ∃ x, xs = [x] := by
      match xs, HN.out with
      | [x], _ => exact ⟨x, rfl⟩
    change l.length + ([108, 101, 116, 32] ++ nm.data.toList ++ [32, 61, 32] ++ Sy.text x).length ≤ _ at hlen
    show Calls _ _ _ _ (PrPost B b l ([108, 101, 116, 32] ++ nm.data.toList ++ [32, 61, 32] ++ Sy.text x) deep w)
    have HL := Lib.hid hlen
    clear hlen
    have kw := wr_any HI.out [⟨#[108, 101, 116, 32]⟩, nm, ⟨#[32, 61, 32]⟩] 3 #[.string ⟨#[108, 101, 116, 32]⟩, .string nm, .string ⟨#[32, 61, 32]⟩] ([108, 101, 116, 32] ++ nm.data.toList ++ [32, 61, 32]) rfl rfl (by simp [flatB]) (by have hlen := HL.out; first | omega | (simp only [List.length_cons, List.length_nil] at hlen ⊢; omega) | (simp only [List.length_append, List.length_cons, List.length_nil] at hlen ⊢; omega)) (by decide)
    rw [HS2.out] at kw
    have KW := Lib.hid kw
    clear kw
    have zp := cell_of_blkP HP.out (j := 0) (u := .pointer (some ⟨b, 0, none⟩)) rfl
    have z1 := cell_of_blkP HC.out (j := 1) (u := .string nm) rfl
    go_enter Tryz.func144, Tryz.ntmps144
    go_wp2_with fail
    rw [← HW2.out]
    clear HW2
    refine KW.out.mono ?_
    rintro e' v1 ⟨rfl, hs, hk⟩
    have HI1 := Lib.hid (HI.out.next hs hk)
    have HK1 := Lib.hid (HK.out.trans hk)
    have HP1 := Lib.hid (hk.box HP.out HNB.out.1 (by decide))
    have HC1 := Lib.hid (hk.box HC.out HNB.out.2 (by decide))
    clear hs hk zp z1
    have ka := arg_any HE.out _ HV.out _ _ cx HS.out HN.out 0 x rfl 1 _ _ _ _ w.heap.size (w.heap.size + 1) B b _ deep v1 HI1.out HP1.out HC1.out (by have hlen := HL.out; rw [Sy.par_one]; first | omega | (simp only [List.length_cons, List.length_nil] at hlen ⊢; omega) | (simp only [List.length_append, List.length_cons, List.length_nil] at hlen ⊢; omega))
    rw [Sy.par_one] at ka
    have KA := Lib.hid ka
    clear ka
    have zp : True := trivial
    go_wp2_with fail
    refine KA.out.mono ?_
    rintro e' v2 ⟨rfl, hs, hk⟩
    have HI2 := Lib.hid (HI1.out.next hs hk)
    have HK2 := Lib.hid (HK1.out.trans hk)
    have HP2 := Lib.hid (hk.box HP1.out HNB.out.1 (by decide))
    have HC2 := Lib.hid (hk.box HC1.out HNB.out.2 (by decide))
    clear hs hk zp 
    go_wp2_with fail
    go_end0
    exact ⟨rfl, by have h1 := HI2.out.st; first | exact h1 | (simp only [List.append_assoc] at h1 ⊢; exact h1) | (simp only [List.append_assoc, List.nil_append] at h1 ⊢; exact h1), HK2.out⟩
  · obtain ⟨x, rfl⟩ : ∃ x, xs = [x] := by
      match xs, HN.out with
      | [x], _ => exact ⟨x, rfl⟩
    change l.length + (nm.data.toList ++ [32, 61, 32] ++ Sy.text x).length ≤ _ at hlen
    show Calls _ _ _ _ (PrPost B b l (nm.data.toList ++ [32, 61, 32] ++ Sy.text x) deep w)
    have HL := Lib.hid hlen
    clear hlen
    have kw := wr_any HI.out [nm, ⟨#[32, 61, 32]⟩] 2 #[.string nm, .string ⟨#[32, 61, 32]⟩] (nm.data.toList ++ [32, 61, 32]) rfl rfl (by simp [flatB]) (by have hlen := HL.out; first | omega | (simp only [List.length_cons, List.length_nil] at hlen ⊢; omega) | (simp only [List.length_append, List.length_cons, List.length_nil] at hlen ⊢; omega)) (by decide)
    rw [HS2.out] at kw
    have KW := Lib.hid kw
    clear kw
    have zp := cell_of_blkP HP.out (j := 0) (u := .pointer (some ⟨b, 0, none⟩)) rfl
    have z1 := cell_of_blkP HC.out (j := 1) (u := .string nm) rfl
    go_enter Tryz.func144, Tryz.ntmps144
    go_wp2_with fail
    rw [← HW2.out]
    clear HW2
    refine KW.out.mono ?_
    rintro e' v1 ⟨rfl, hs, hk⟩
    have HI1 := Lib.hid (HI.out.next hs hk)
    have HK1 := Lib.hid (HK.out.trans hk)
    have HP1 := Lib.hid (hk.box HP.out HNB.out.1 (by decide))
    have HC1 := Lib.hid (hk.box HC.out HNB.out.2 (by decide))
    clear hs hk zp z1
    have ka := arg_any HE.out _ HV.out _ _ cx HS.out HN.out 0 x rfl 1 _ _ _ _ w.heap.size (w.heap.size + 1) B b _ deep v1 HI1.out HP1.out HC1.out (by have hlen := HL.out; rw [Sy.par_one]; first | omega | (simp only [List.length_cons, List.length_nil] at hlen ⊢; omega) | (simp only [List.length_append, List.length_cons, List.length_nil] at hlen ⊢; omega))
    rw [Sy.par_one] at ka
    have KA := Lib.hid ka
    clear ka
    have zp : True := trivial
    go_wp2_with fail
    refine KA.out.mono ?_
    rintro e' v2 ⟨rfl, hs, hk⟩
    have HI2 := Lib.hid (HI1.out.next hs hk)
    have HK2 := Lib.hid (HK1.out.trans hk)
    have HP2 := Lib.hid (hk.box HP1.out HNB.out.1 (by decide))
    have HC2 := Lib.hid (hk.box HC1.out HNB.out.2 (by decide))
    clear hs hk zp 
    go_wp2_with fail
    go_end0
    exact ⟨rfl, by have h1 := HI2.out.st; first | exact h1 | (simp only [List.append_assoc] at h1 ⊢; exact h1) | (simp only [List.append_assoc, List.nil_append] at h1 ⊢; exact h1), HK2.out⟩
  · obtain ⟨x, y, rfl⟩ : ∃ x y, xs = [x, y] := by
      match xs, HN.out with
      | [x, y], _ => exact ⟨x, y, rfl⟩
    change l.length + (Sy.par 9 (Sy.level x, Sy.text x) ++ [46] ++ nm.data.toList ++ [32, 61, 32] ++ Sy.text y).length ≤ _ at hlen
    show Calls _ _ _ _ (PrPost B b l (Sy.par 9 (Sy.level x, Sy.text x) ++ [46] ++ nm.data.toList ++ [32, 61, 32] ++ Sy.text y) deep w)
    have HL := Lib.hid hlen
    clear hlen
    have ka := arg_any HE.out _ HV.out _ _ cx HS.out HN.out 0 x rfl 9 _ _ _ _ w.heap.size (w.heap.size + 1) B b _ deep w2 HI.out HP.out HC.out (by have hlen := HL.out; first | omega | (simp only [List.length_cons, List.length_nil] at hlen ⊢; omega) | (simp only [List.length_append, List.length_cons, List.length_nil] at hlen ⊢; omega))
    have KA := Lib.hid ka
    clear ka
    have zp : True := trivial
    go_enter Tryz.func144, Tryz.ntmps144
    go_wp2_with fail
    rw [← HW2.out]
    clear HW2
    refine KA.out.mono ?_
    rintro e' v1 ⟨rfl, hs, hk⟩
    have HI1 := Lib.hid (HI.out.next hs hk)
    have HK1 := Lib.hid (HK.out.trans hk)
    have HP1 := Lib.hid (hk.box HP.out HNB.out.1 (by decide))
    have HC1 := Lib.hid (hk.box HC.out HNB.out.2 (by decide))
    clear hs hk zp 
    have kw := wr_any HI1.out [⟨#[46]⟩, nm, ⟨#[32, 61, 32]⟩] 3 #[.string ⟨#[46]⟩, .string nm, .string ⟨#[32, 61, 32]⟩] ([46] ++ nm.data.toList ++ [32, 61, 32]) rfl rfl (by simp [flatB]) (by have hlen := HL.out; first | omega | (simp only [List.length_cons, List.length_nil] at hlen ⊢; omega) | (simp only [List.length_append, List.length_cons, List.length_nil] at hlen ⊢; omega)) (by decide)
    have KW := Lib.hid kw
    clear kw
    have zp := cell_of_blkP HP1.out (j := 0) (u := .pointer (some ⟨b, 0, none⟩)) rfl
    have z1 := cell_of_blkP HC1.out (j := 1) (u := .string nm) rfl
    go_wp2_with fail
    refine KW.out.mono ?_
    rintro e' v2 ⟨rfl, hs, hk⟩
    have HI2 := Lib.hid (HI1.out.next hs hk)
    have HK2 := Lib.hid (HK1.out.trans hk)
    have HP2 := Lib.hid (hk.box HP1.out HNB.out.1 (by decide))
    have HC2 := Lib.hid (hk.box HC1.out HNB.out.2 (by decide))
    clear hs hk zp z1
    have ka := arg_any HE.out _ HV.out _ _ cx HS.out HN.out 1 y rfl 1 _ _ _ _ w.heap.size (w.heap.size + 1) B b _ deep v2 HI2.out HP2.out HC2.out (by have hlen := HL.out; rw [Sy.par_one]; first | omega | (simp only [List.length_cons, List.length_nil] at hlen ⊢; omega) | (simp only [List.length_append, List.length_cons, List.length_nil] at hlen ⊢; omega))
    rw [Sy.par_one] at ka
    have KA := Lib.hid ka
    clear ka
    have zp : True := trivial
    go_wp2_with fail
    refine KA.out.mono ?_
    rintro e' v3 ⟨rfl, hs, hk⟩
    have HI3 := Lib.hid (HI2.out.next hs hk)
    have HK3 := Lib.hid (HK2.out.trans hk)
    have HP3 := Lib.hid (hk.box HP2.out HNB.out.1 (by decide))
    have HC3 := Lib.hid (hk.box HC2.out HNB.out.2 (by decide))
    clear hs hk zp 
    go_wp2_with fail
    go_end0
    exact ⟨rfl, by have h1 := HI3.out.st; first | exact h1 | (simp only [List.append_assoc] at h1 ⊢; exact h1) | (simp only [List.append_assoc, List.nil_append] at h1 ⊢; exact h1), HK3.out⟩
  · obtain ⟨x, xr, rfl⟩ : ∃ x xr, xs = x :: xr := by
      match xs, HN.out with
      | x :: xr, _ => exact ⟨x, xr, rfl⟩
      | [], h0 => simp at h0; omega
    obtain ⟨xb, xo, _, rfl, _⟩ := HS.out.get (j := 0) (e := x) rfl
    have hmm : (xr.map fun e => (Sy.level e, Sy.text e)).map Prod.snd = xr.map Sy.text := by rw [List.map_map]; rfl
    change l.length + ([115, 101, 110, 100, 32] ++ Sy.par 8 (Sy.level x, Sy.text x) ++ [46] ++ nm.data.toList ++ [40] ++ Sy.commas ((xr.map fun e => (Sy.level e, Sy.text e)).map Prod.snd) ++ [41]).length ≤ _ at hlen
    show Calls _ _ _ _ (PrPost B b l ([115, 101, 110, 100, 32] ++ Sy.par 8 (Sy.level x, Sy.text x) ++ [46] ++ nm.data.toList ++ [40] ++ Sy.commas ((xr.map fun e => (Sy.level e, Sy.text e)).map Prod.snd) ++ [41]) deep w)
    rw [hmm] at hlen ⊢
    clear hmm
    have HL := Lib.hid hlen
    clear hlen
    have kw := wr_any HI.out [⟨#[115, 101, 110, 100, 32]⟩] 1 #[.string ⟨#[115, 101, 110, 100, 32]⟩] ([115, 101, 110, 100, 32]) rfl rfl (by simp [flatB]) (by have hlen := HL.out; first | omega | (simp only [List.length_cons, List.length_nil] at hlen ⊢; omega) | (simp only [List.length_append, List.length_cons, List.length_nil] at hlen ⊢; omega)) (by decide)
    rw [HS2.out] at kw
    have KW := Lib.hid kw
    clear kw
    have zp := cell_of_blkP HP.out (j := 0) (u := .pointer (some ⟨b, 0, none⟩)) rfl
    go_enter Tryz.func144, Tryz.ntmps144
    go_wp2_with fail
    rw [← HW2.out]
    clear HW2
    refine KW.out.mono ?_
    rintro e' v1 ⟨rfl, hs, hk⟩
    have HI1 := Lib.hid (HI.out.next hs hk)
    have HK1 := Lib.hid (HK.out.trans hk)
    have HP1 := Lib.hid (hk.box HP.out HNB.out.1 (by decide))
    have HC1 := Lib.hid (hk.box HC.out HNB.out.2 (by decide))
    clear hs hk zp 
    have ka := arg_any HE.out _ HV.out _ _ cx HS.out HN.out 0 x rfl 8 _ _ _ _ w.heap.size (w.heap.size + 1) B b _ deep v1 HI1.out HP1.out HC1.out (by have hlen := HL.out; first | omega | (simp only [List.length_cons, List.length_nil] at hlen ⊢; omega) | (simp only [List.length_append, List.length_cons, List.length_nil] at hlen ⊢; omega))
    have KA := Lib.hid ka
    clear ka
    have zp : True := trivial
    go_wp2_with fail
    refine KA.out.mono ?_
    rintro e' v2 ⟨rfl, hs, hk⟩
    have HI2 := Lib.hid (HI1.out.next hs hk)
    have HK2 := Lib.hid (HK1.out.trans hk)
    have HP2 := Lib.hid (hk.box HP1.out HNB.out.1 (by decide))
    have HC2 := Lib.hid (hk.box HC1.out HNB.out.2 (by decide))
    clear hs hk zp 
    have kw := wr_any HI2.out [⟨#[46]⟩, nm] 2 #[.string ⟨#[46]⟩, .string nm] ([46] ++ nm.data.toList) rfl rfl (by simp [flatB]) (by have hlen := HL.out; first | omega | (simp only [List.length_cons, List.length_nil] at hlen ⊢; omega) | (simp only [List.length_append, List.length_cons, List.length_nil] at hlen ⊢; omega)) (by decide)
    have KW := Lib.hid kw
    clear kw
    have zp := cell_of_blkP HP2.out (j := 0) (u := .pointer (some ⟨b, 0, none⟩)) rfl
    have z1 := cell_of_blkP HC2.out (j := 1) (u := .string nm) rfl
    go_wp2_with fail
    refine KW.out.mono ?_
    rintro e' v3 ⟨rfl, hs, hk⟩
    have HI3 := Lib.hid (HI2.out.next hs hk)
    have HK3 := Lib.hid (HK2.out.trans hk)
    have HP3 := Lib.hid (hk.box HP2.out HNB.out.1 (by decide))
    have HC3 := Lib.hid (hk.box HC2.out HNB.out.2 (by decide))
    clear hs hk zp z1
    have hsl := HS.out.tail (by rw [HN.out]; omega)
    obtain ⟨pd, hpd⟩ : ∃ q, (if cx = 1 then (some ⟨xb, xo, none⟩ : Option Addr) else some ⟨xb, xo + 6, none⟩) = q := ⟨_, rfl⟩
    rw [hpd] at hsl
    have kl := list_any (exprC HE.out (Tr.E.deep.deeps (xr))) (xr) (fun y hy => by obtain ⟨q, hq⟩ := List.getElem?_of_mem hy; exact Tr.E.deeps_get _ q y hq) (fun y hy => HV.out y (List.mem_of_mem_drop (i := 1) hy)) pd _ _ (by first | rfl | (have h9 := HN.out; simp only [List.length_cons] at h9; omega)) hsl B b _ deep v3.drew HI3.out.drew (by have hlen := HL.out; first | omega | (simp only [List.length_cons, List.length_nil] at hlen ⊢; omega) | (simp only [List.length_append, List.length_cons, List.length_nil] at hlen ⊢; omega))
    have KL := Lib.hid kl
    clear kl hsl
    have zp := cell_of_blkP HP3.out (j := 0) (u := .pointer (some ⟨b, 0, none⟩)) rfl
    have z2 := cell_of_blkP HC3.out (j := 2) (u := .slice (some ⟨xb, xo, none⟩) XN cx) rfl
    have hl1 := cell_lt' z2
    have hxc1 : 1 ≤ cx := by
      obtain ⟨q1, c1, e1, h1⟩ := HS.out.form
      have h2 := (h1 (by simp)).1
      injection e1 with _ ea eb
      have h3 := HN.out
      simp only [List.length_cons] at h2 h3
      omega
    have hxn1 : 1 ≤ XN := by omega
    have hxn2 : (1 : Int) ≤ ((XN : Nat) : Int) := by omega
    go_wp2_with fail
    go_still_tail 4, (by kernel_rfl)
    change wpList _ _ _ _ _ v3.drew
    have HKd := Lib.hid HK3.out.drew
    have HId := Lib.hid HI3.out.drew
    obtain ⟨wd, hwd⟩ : ∃ q, q = v3.drew := ⟨_, rfl⟩
    rw [← hwd] at HKd HId KL ⊢
    clear hwd zp z2 hl1
    go_wp2_with fail
    refine KL.out.mono ?_
    rintro e' v4 ⟨rfl, hs, hk⟩
    have HI4 := Lib.hid (HId.out.next hs hk)
    have HK4 := Lib.hid (HKd.out.trans hk)
    clear hs hk
    go_wp2_with fail
    go_end0
    exact ⟨rfl, by have h1 := HI4.out.st; first | exact h1 | (simp only [List.append_assoc] at h1 ⊢; exact h1) | (simp only [List.append_assoc, List.nil_append] at h1 ⊢; exact h1), HK4.out⟩
  · obtain ⟨x, rfl⟩ : ∃ x, xs = [x] := by
      match xs, HN.out with
      | [x], _ => exact ⟨x, rfl⟩
    change l.length + ([112, 114, 105, 110, 116, 32] ++ Sy.text x).length ≤ _ at hlen
    show Calls _ _ _ _ (PrPost B b l ([112, 114, 105, 110, 116, 32] ++ Sy.text x) deep w)
    have HL := Lib.hid hlen
    clear hlen
    have kw := wr_any HI.out [⟨#[112, 114, 105, 110, 116, 32]⟩] 1 #[.string ⟨#[112, 114, 105, 110, 116, 32]⟩] ([112, 114, 105, 110, 116, 32]) rfl rfl (by simp [flatB]) (by have hlen := HL.out; first | omega | (simp only [List.length_cons, List.length_nil] at hlen ⊢; omega) | (simp only [List.length_append, List.length_cons, List.length_nil] at hlen ⊢; omega)) (by decide)
    rw [HS2.out] at kw
    have KW := Lib.hid kw
    clear kw
    have zp := cell_of_blkP HP.out (j := 0) (u := .pointer (some ⟨b, 0, none⟩)) rfl
    go_enter Tryz.func144, Tryz.ntmps144
    go_wp2_with fail
    rw [← HW2.out]
    clear HW2
    refine KW.out.mono ?_
    rintro e' v1 ⟨rfl, hs, hk⟩
    have HI1 := Lib.hid (HI.out.next hs hk)
    have HK1 := Lib.hid (HK.out.trans hk)
    have HP1 := Lib.hid (hk.box HP.out HNB.out.1 (by decide))
    have HC1 := Lib.hid (hk.box HC.out HNB.out.2 (by decide))
    clear hs hk zp 
    have ka := arg_any HE.out _ HV.out _ _ cx HS.out HN.out 0 x rfl 1 _ _ _ _ w.heap.size (w.heap.size + 1) B b _ deep v1 HI1.out HP1.out HC1.out (by have hlen := HL.out; rw [Sy.par_one]; first | omega | (simp only [List.length_cons, List.length_nil] at hlen ⊢; omega) | (simp only [List.length_append, List.length_cons, List.length_nil] at hlen ⊢; omega))
    rw [Sy.par_one] at ka
    have KA := Lib.hid ka
    clear ka
    have zp : True := trivial
    go_wp2_with fail
    refine KA.out.mono ?_
    rintro e' v2 ⟨rfl, hs, hk⟩
    have HI2 := Lib.hid (HI1.out.next hs hk)
    have HK2 := Lib.hid (HK1.out.trans hk)
    have HP2 := Lib.hid (hk.box HP1.out HNB.out.1 (by decide))
    have HC2 := Lib.hid (hk.box HC1.out HNB.out.2 (by decide))
    clear hs hk zp 
    go_wp2_with fail
    go_end0
    exact ⟨rfl, by have h1 := HI2.out.st; first | exact h1 | (simp only [List.append_assoc] at h1 ⊢; exact h1) | (simp only [List.append_assoc, List.nil_append] at h1 ⊢; exact h1), HK2.out⟩
  · obtain ⟨x, y, rfl⟩ : ∃ x y, xs = [x, y] := by
      match xs, HN.out with
      | [x, y], _ => exact ⟨x, y, rfl⟩
    change l.length + ([109, 111, 118, 101, 32] ++ Sy.text x ++ [32, 116, 111, 32] ++ Sy.text y).length ≤ _ at hlen
    show Calls _ _ _ _ (PrPost B b l ([109, 111, 118, 101, 32] ++ Sy.text x ++ [32, 116, 111, 32] ++ Sy.text y) deep w)
    have HL := Lib.hid hlen
    clear hlen
    have kw := wr_any HI.out [⟨#[109, 111, 118, 101, 32]⟩] 1 #[.string ⟨#[109, 111, 118, 101, 32]⟩] ([109, 111, 118, 101, 32]) rfl rfl (by simp [flatB]) (by have hlen := HL.out; first | omega | (simp only [List.length_cons, List.length_nil] at hlen ⊢; omega) | (simp only [List.length_append, List.length_cons, List.length_nil] at hlen ⊢; omega)) (by decide)
    rw [HS2.out] at kw
    have KW := Lib.hid kw
    clear kw
    have zp := cell_of_blkP HP.out (j := 0) (u := .pointer (some ⟨b, 0, none⟩)) rfl
    go_enter Tryz.func144, Tryz.ntmps144
    go_wp2_with fail
    rw [← HW2.out]
    clear HW2
    refine KW.out.mono ?_
    rintro e' v1 ⟨rfl, hs, hk⟩
    have HI1 := Lib.hid (HI.out.next hs hk)
    have HK1 := Lib.hid (HK.out.trans hk)
    have HP1 := Lib.hid (hk.box HP.out HNB.out.1 (by decide))
    have HC1 := Lib.hid (hk.box HC.out HNB.out.2 (by decide))
    clear hs hk zp 
    have ka := arg_any HE.out _ HV.out _ _ cx HS.out HN.out 0 x rfl 1 _ _ _ _ w.heap.size (w.heap.size + 1) B b _ deep v1 HI1.out HP1.out HC1.out (by have hlen := HL.out; rw [Sy.par_one]; first | omega | (simp only [List.length_cons, List.length_nil] at hlen ⊢; omega) | (simp only [List.length_append, List.length_cons, List.length_nil] at hlen ⊢; omega))
    rw [Sy.par_one] at ka
    have KA := Lib.hid ka
    clear ka
    have zp : True := trivial
    go_wp2_with fail
    refine KA.out.mono ?_
    rintro e' v2 ⟨rfl, hs, hk⟩
    have HI2 := Lib.hid (HI1.out.next hs hk)
    have HK2 := Lib.hid (HK1.out.trans hk)
    have HP2 := Lib.hid (hk.box HP1.out HNB.out.1 (by decide))
    have HC2 := Lib.hid (hk.box HC1.out HNB.out.2 (by decide))
    clear hs hk zp 
    have kw := wr_any HI2.out [⟨#[32, 116, 111, 32]⟩] 1 #[.string ⟨#[32, 116, 111, 32]⟩] ([32, 116, 111, 32]) rfl rfl (by simp [flatB]) (by have hlen := HL.out; first | omega | (simp only [List.length_cons, List.length_nil] at hlen ⊢; omega) | (simp only [List.length_append, List.length_cons, List.length_nil] at hlen ⊢; omega)) (by decide)
    have KW := Lib.hid kw
    clear kw
    have zp := cell_of_blkP HP2.out (j := 0) (u := .pointer (some ⟨b, 0, none⟩)) rfl
    go_wp2_with fail
    refine KW.out.mono ?_
    rintro e' v3 ⟨rfl, hs, hk⟩
    have HI3 := Lib.hid (HI2.out.next hs hk)
    have HK3 := Lib.hid (HK2.out.trans hk)
    have HP3 := Lib.hid (hk.box HP2.out HNB.out.1 (by decide))
    have HC3 := Lib.hid (hk.box HC2.out HNB.out.2 (by decide))
    clear hs hk zp 
    have ka := arg_any HE.out _ HV.out _ _ cx HS.out HN.out 1 y rfl 1 _ _ _ _ w.heap.size (w.heap.size + 1) B b _ deep v3 HI3.out HP3.out HC3.out (by have hlen := HL.out; rw [Sy.par_one]; first | omega | (simp only [List.length_cons, List.length_nil] at hlen ⊢; omega) | (simp only [List.length_append, List.length_cons, List.length_nil] at hlen ⊢; omega))
    rw [Sy.par_one] at ka
    have KA := Lib.hid ka
    clear ka
    have zp : True := trivial
    go_wp2_with fail
    refine KA.out.mono ?_
    rintro e' v4 ⟨rfl, hs, hk⟩
    have HI4 := Lib.hid (HI3.out.next hs hk)
    have HK4 := Lib.hid (HK3.out.trans hk)
    have HP4 := Lib.hid (hk.box HP3.out HNB.out.1 (by decide))
    have HC4 := Lib.hid (hk.box HC3.out HNB.out.2 (by decide))
    clear hs hk zp 
    go_wp2_with fail
    go_end0
    exact ⟨rfl, by have h1 := HI4.out.st; first | exact h1 | (simp only [List.append_assoc] at h1 ⊢; exact h1) | (simp only [List.append_assoc, List.nil_append] at h1 ⊢; exact h1), HK4.out⟩
  · obtain ⟨x, y, rfl⟩ : ∃ x y, xs = [x, y] := by
      match xs, HN.out with
      | [x, y], _ => exact ⟨x, y, rfl⟩
    obtain ⟨xb, xo, _, rfl, _⟩ := HS.out.get (j := 0) (e := x) rfl
    change l.length + ([119, 97, 116, 99, 104, 32] ++ Sy.text x ++ [32, 98, 121, 32] ++ nm.data.toList ++ [40] ++ Sy.text y ++ [41]).length ≤ _ at hlen
    show Calls _ _ _ _ (PrPost B b l ([119, 97, 116, 99, 104, 32] ++ Sy.text x ++ [32, 98, 121, 32] ++ nm.data.toList ++ [40] ++ Sy.text y ++ [41]) deep w)
    have HL := Lib.hid hlen
    clear hlen
    have kw := wr_any HI.out [⟨#[119, 97, 116, 99, 104, 32]⟩] 1 #[.string ⟨#[119, 97, 116, 99, 104, 32]⟩] ([119, 97, 116, 99, 104, 32]) rfl rfl (by simp [flatB]) (by have hlen := HL.out; first | omega | (simp only [List.length_cons, List.length_nil] at hlen ⊢; omega) | (simp only [List.length_append, List.length_cons, List.length_nil] at hlen ⊢; omega)) (by decide)
    rw [HS2.out] at kw
    have KW := Lib.hid kw
    clear kw
    have zp := cell_of_blkP HP.out (j := 0) (u := .pointer (some ⟨b, 0, none⟩)) rfl
    go_enter Tryz.func144, Tryz.ntmps144
    go_wp2_with fail
    rw [← HW2.out]
    clear HW2
    refine KW.out.mono ?_
    rintro e' v1 ⟨rfl, hs, hk⟩
    have HI1 := Lib.hid (HI.out.next hs hk)
    have HK1 := Lib.hid (HK.out.trans hk)
    have HP1 := Lib.hid (hk.box HP.out HNB.out.1 (by decide))
    have HC1 := Lib.hid (hk.box HC.out HNB.out.2 (by decide))
    clear hs hk zp 
    have ka := arg_any HE.out _ HV.out _ _ cx HS.out HN.out 0 x rfl 1 _ _ _ _ w.heap.size (w.heap.size + 1) B b _ deep v1 HI1.out HP1.out HC1.out (by have hlen := HL.out; rw [Sy.par_one]; first | omega | (simp only [List.length_cons, List.length_nil] at hlen ⊢; omega) | (simp only [List.length_append, List.length_cons, List.length_nil] at hlen ⊢; omega))
    rw [Sy.par_one] at ka
    have KA := Lib.hid ka
    clear ka
    have zp : True := trivial
    go_wp2_with fail
    refine KA.out.mono ?_
    rintro e' v2 ⟨rfl, hs, hk⟩
    have HI2 := Lib.hid (HI1.out.next hs hk)
    have HK2 := Lib.hid (HK1.out.trans hk)
    have HP2 := Lib.hid (hk.box HP1.out HNB.out.1 (by decide))
    have HC2 := Lib.hid (hk.box HC1.out HNB.out.2 (by decide))
    clear hs hk zp 
    have kw := wr_any HI2.out [⟨#[32, 98, 121, 32]⟩, nm] 2 #[.string ⟨#[32, 98, 121, 32]⟩, .string nm] ([32, 98, 121, 32] ++ nm.data.toList) rfl rfl (by simp [flatB]) (by have hlen := HL.out; first | omega | (simp only [List.length_cons, List.length_nil] at hlen ⊢; omega) | (simp only [List.length_append, List.length_cons, List.length_nil] at hlen ⊢; omega)) (by decide)
    have KW := Lib.hid kw
    clear kw
    have zp := cell_of_blkP HP2.out (j := 0) (u := .pointer (some ⟨b, 0, none⟩)) rfl
    have z1 := cell_of_blkP HC2.out (j := 1) (u := .string nm) rfl
    go_wp2_with fail
    refine KW.out.mono ?_
    rintro e' v3 ⟨rfl, hs, hk⟩
    have HI3 := Lib.hid (HI2.out.next hs hk)
    have HK3 := Lib.hid (HK2.out.trans hk)
    have HP3 := Lib.hid (hk.box HP2.out HNB.out.1 (by decide))
    have HC3 := Lib.hid (hk.box HC2.out HNB.out.2 (by decide))
    clear hs hk zp z1
    have hsl := HS.out.tail (by rw [HN.out]; omega)
    obtain ⟨pd, hpd⟩ : ∃ q, (if cx = 1 then (some ⟨xb, xo, none⟩ : Option Addr) else some ⟨xb, xo + 6, none⟩) = q := ⟨_, rfl⟩
    rw [hpd] at hsl
    have kl := list_any (exprC HE.out (Tr.E.deep.deeps ([y]))) ([y]) (fun y hy => by obtain ⟨q, hq⟩ := List.getElem?_of_mem hy; exact Tr.E.deeps_get _ q y hq) (fun y hy => HV.out y (List.mem_of_mem_drop (i := 1) hy)) pd _ _ (by first | rfl | (have h9 := HN.out; simp only [List.length_cons] at h9; omega)) hsl B b _ deep v3.drew HI3.out.drew (by have hlen := HL.out; rw [show Sy.commas (List.map Sy.text [y]) = Sy.text y from rfl]; first | omega | (simp only [List.length_cons, List.length_nil] at hlen ⊢; omega) | (simp only [List.length_append, List.length_cons, List.length_nil] at hlen ⊢; omega))
    rw [show Sy.commas (List.map Sy.text [y]) = Sy.text y from rfl] at kl
    have KL := Lib.hid kl
    clear kl hsl
    have zp := cell_of_blkP HP3.out (j := 0) (u := .pointer (some ⟨b, 0, none⟩)) rfl
    have z2 := cell_of_blkP HC3.out (j := 2) (u := .slice (some ⟨xb, xo, none⟩) 2 cx) rfl
    have hl1 := cell_lt' z2
    have hxc1 : 1 ≤ cx := by
      obtain ⟨q1, c1, e1, h1⟩ := HS.out.form
      have h2 := (h1 (by simp)).1
      injection e1 with _ ea eb
      have h3 := HN.out
      simp only [List.length_cons] at h2 h3
      omega
    have hxn1 : 1 ≤ 2 := by omega
    have hxn2 : (1 : Int) ≤ ((2 : Nat) : Int) := by omega
    go_wp2_with fail
    go_still_tail 4, (by kernel_rfl)
    change wpList _ _ _ _ _ v3.drew
    have HKd := Lib.hid HK3.out.drew
    have HId := Lib.hid HI3.out.drew
    obtain ⟨wd, hwd⟩ : ∃ q, q = v3.drew := ⟨_, rfl⟩
    rw [← hwd] at HKd HId KL ⊢
    clear hwd zp z2 hl1
    go_wp2_with fail
    refine KL.out.mono ?_
    rintro e' v4 ⟨rfl, hs, hk⟩
    have HI4 := Lib.hid (HId.out.next hs hk)
    have HK4 := Lib.hid (HKd.out.trans hk)
    clear hs hk
    go_wp2_with fail
    go_end0
    exact ⟨rfl, by have h1 := HI4.out.st; first | exact h1 | (simp only [List.append_assoc] at h1 ⊢; exact h1) | (simp only [List.append_assoc, List.nil_append] at h1 ⊢; exact h1), HK4.out⟩
  · skip
    change l.length + ([114, 101, 116, 117, 114, 110]).length ≤ _ at hlen
    show Calls _ _ _ _ (PrPost B b l ([114, 101, 116, 117, 114, 110]) deep w)
    have HL := Lib.hid hlen
    clear hlen
    have kw := wr_any HI.out [⟨#[114, 101, 116, 117, 114, 110]⟩] 1 #[.string ⟨#[114, 101, 116, 117, 114, 110]⟩] ([114, 101, 116, 117, 114, 110]) rfl rfl (by simp [flatB]) (by have hlen := HL.out; first | omega | (simp only [List.length_cons, List.length_nil] at hlen ⊢; omega) | (simp only [List.length_append, List.length_cons, List.length_nil] at hlen ⊢; omega)) (by decide)
    rw [HS2.out] at kw
    have KW := Lib.hid kw
    clear kw
    have zp := cell_of_blkP HP.out (j := 0) (u := .pointer (some ⟨b, 0, none⟩)) rfl
    go_enter Tryz.func144, Tryz.ntmps144
    go_wp2_with fail
    rw [← HW2.out]
    clear HW2
    refine KW.out.mono ?_
    rintro e' v1 ⟨rfl, hs, hk⟩
    have HI1 := Lib.hid (HI.out.next hs hk)
    have HK1 := Lib.hid (HK.out.trans hk)
    have HP1 := Lib.hid (hk.box HP.out HNB.out.1 (by decide))
    have HC1 := Lib.hid (hk.box HC.out HNB.out.2 (by decide))
    clear hs hk zp 
    go_wp2_with fail
    go_end0
    exact ⟨rfl, by have h1 := HI1.out.st; first | exact h1 | (simp only [List.append_assoc] at h1 ⊢; exact h1) | (simp only [List.append_assoc, List.nil_append] at h1 ⊢; exact h1), HK1.out⟩
end Go.Proofs.YtlgfickhkejdjaaGreatDoor
