/-
  Several texts in one: SySimp, SyStmtA, SyStmtB.
-/
import Derived.Test.YtdckddkalgnlpaaGreatDoorV24
import Derived.Maps.OwnSet
import Derived.Maps.StringElems
namespace Go.Proofs.YtdckddkalgnlpaaGreatDoor
open Go.RowKit
theorem okS_forms {k : Int} {nm : ByteArray} {n nb ne : Nat} (h : Tr.okS k nm n nb ne = true) (h3 : k ≠ 3) (h4 : k ≠ 4) :
 (k = 0 ∧ n = 1) ∨ (k = 1 ∧ n = 1) ∨ (k = 2 ∧ n = 2) ∨ (k = 5 ∧ 1 ≤ n) ∨ (k = 6 ∧ n = 1) ∨ (k = 7 ∧ n = 2) ∨ (k = 8 ∧ n = 2) ∨ (k = 9 ∧ n = 0) := by
 unfold Tr.okS at h
 by_cases h0 : k = 0
 ·rw [if_pos h0, Bool.and_eq_true, decide_eq_true_eq] at h; exact .inl ⟨h0, h.1.1⟩
 rw [if_neg h0] at h
 by_cases h0 : k = 1
 ·rw [if_pos h0, Bool.and_eq_true, decide_eq_true_eq] at h; exact .inr (.inl ⟨h0, h.1.1⟩)
 rw [if_neg h0] at h
 by_cases h0 : k = 2
 ·rw [if_pos h0, Bool.and_eq_true, decide_eq_true_eq] at h; exact .inr (.inr (.inl ⟨h0, h.1.1⟩))
 rw [if_neg h0, if_neg h3, if_neg h4] at h
 by_cases h0 : k = 5
 ·rw [if_pos h0, Bool.and_eq_true, decide_eq_true_eq] at h; exact .inr (.inr (.inr (.inl ⟨h0, h.1.1⟩)))
 rw [if_neg h0] at h
 by_cases h0 : k = 6
 ·rw [if_pos h0, decide_eq_true_eq] at h; exact .inr (.inr (.inr (.inr (.inl ⟨h0, h.1⟩))))
 rw [if_neg h0] at h
 by_cases h0 : k = 7
 ·rw [if_pos h0, decide_eq_true_eq] at h; exact .inr (.inr (.inr (.inr (.inr (.inl ⟨h0, h.1⟩)))))
 rw [if_neg h0] at h
 by_cases h0 : k = 8
 ·rw [if_pos h0, Bool.and_eq_true, decide_eq_true_eq] at h; exact .inr (.inr (.inr (.inr (.inr (.inr (.inl ⟨h0, h.1.1⟩))))))
 rw [if_neg h0] at h
 by_cases h0 : k = 9
 ·rw [if_pos h0, decide_eq_true_eq] at h; exact .inr (.inr (.inr (.inr (.inr (.inr (.inr ⟨h0, h.1⟩))))))
 rw [if_neg h0] at h
 cases h
theorem SlE.tail {w : World} {b o n c : Nat} {l : List Tr.E} (h : SlE w (.slice (some ⟨b, o, none⟩) n c) l) (hn : 1 ≤ l.length) : SlE w (.slice (if c = 1 then some ⟨b, o, none⟩ else some ⟨b, o + 6, none⟩) (n - 1) (c - 1)) (l.drop 1) := by
 generalize hv : (Value.slice (some ⟨b, o, none⟩) n c) = v at h
 cases h with
 | nil p c => simp at hn
 | row b o c l A hn2 hm hc ha =>
   cases hv
   by_cases e : c = 1
   ·have h1 : l.drop 1 = [] := List.drop_eq_nil_of_le (by omega)
    rw [if_pos e, h1, show l.length - 1 = 0 by omega]
    exact .nil _ _
   ·rw [if_neg e]
    have e2 : (Value.slice (some ⟨b, o + 6, none⟩) (l.length - 1) (c - 1)) = .slice (some ⟨b, o + 6, none⟩) (l.drop 1).length (c - 1) := by rw [List.length_drop]
    rw [e2]
    have hs : ∀ q x, (l.drop 1)[q]? = some x → l[q + 1]? = some x := fun q x hq => by rw [List.getElem?_drop] at hq; rw [Nat.add_comm]; exact hq
    exact .row b (o + 6) (c - 1) _ (fun q => A (q + 1)) (by rw [List.length_drop]; omega) (by omega) (fun q x hq => by
     have h1 := hc (q + 1) x (hs q x hq)
     rw [show o + (q + 1) * 6 = o + 6 + q * 6 by omega] at h1
     exact h1) (fun q x hq => ha (q + 1) x (hs q x hq))
set_option maxRecDepth 100000 in
set_option maxHeartbeats 20000000 in
theorem simple_any {w0 : World} (hE : PrEnv w0) (s : Tr.S) (hvs : Tr.validS s = true) (h3 : s.kind ≠ 3) (h4 : s.kind ≠ 4) (px py pz : Option Addr) (XN cx YN cy ZN cz : Nat) (hN : s.exprs.length = XN) (hS : SlE w0 (.slice px XN cx) s.exprs) (B b : Nat) (l : List UInt8) (deep : Int) (w : World) (hI : PrIn w0 B b l deep w)
 (hlen : l.length + (Sy.simple s.kind s.name.data.toList (Sy.texts s.exprs)).length ≤ 140737488355328) :
 Calls Tryz.prog 174 #[.pointer (some ⟨b, 0, none⟩), stmtV s (.slice px XN cx) (.slice py YN cy) (.slice pz ZN cz)] w (PrPost B b l (Sy.simple s.kind s.name.data.toList (Sy.texts s.exprs)) deep w) := by
 obtain ⟨k, nm, xs, bd, el⟩ := s
 simp only [Tr.S.kind, Tr.S.name, Tr.S.exprs] at h3 h4 hN hS hlen ⊢
 rw [Tr.validS] at hvs
 simp only [Bool.and_eq_true] at hvs
 obtain ⟨⟨⟨hvx, hok⟩, _⟩, _⟩ := hvs
 rw [Tr.validEs_all, List.all_eq_true] at hvx
 rw [hN] at hok
 have hf := okS_forms hok h3 h4
 rw [Sy.texts_map] at hlen ⊢
 have hlt := hI.lt
 obtain ⟨w1, hw1⟩ : ∃ q, q = w.alloc (.cells #[.pointer (some ⟨b, 0, none⟩)] 81) := ⟨_, rfl⟩
 obtain ⟨w2, hw2⟩ : ∃ q, q = w1.alloc (.cells #[.int .i64 k, .string nm, .slice px XN cx, .slice py YN cy, .slice pz ZN cz] 94) := ⟨_, rfl⟩
 have hs1 : w1.heap.size = w.heap.size + 1 := by rw [hw1]; exact World.size_alloc _ _
 have hs2 : w2.heap.size = w.heap.size + 1 + 1 := by rw [hw2, World.size_alloc, hs1]
 have hc1 : w1.heap[w.heap.size]? = some (.cells #[.pointer (some ⟨b, 0, none⟩)] 81 (0, 0)) := by rw [hw1]; exact (MapKept.heap_alloc w _).1
 have hc2 : w2.heap[w1.heap.size]? = some (.cells #[.int .i64 k, .string nm, .slice px XN cx, .slice py YN cy, .slice pz ZN cz] 94 (0, 0)) := by rw [hw2]; exact (MapKept.heap_alloc w1 _).1
 have hi1 : PrIn w0 B b l deep w1 := by rw [hw1]; exact hI.box _
 have hi2 : PrIn w0 B b l deep w2 := by rw [hw2]; exact hi1.box _
 have hk2 : Pk B b w w2 := by rw [hw2, hw1]; exact (hI.pk _).trans ((hI.box _).pk _)
 have hc1' : w2.heap[w.heap.size]? = some (.cells #[.pointer (some ⟨b, 0, none⟩)] 81 (0, 0)) := by
  have h1 := below_box w1 (.cells #[.int .i64 k, .string nm, .slice px XN cx, .slice py YN cy, .slice pz ZN cz] 94)
  rw [← hw2] at h1
  exact (h1.block _ (by omega)).trans hc1
 rw [hs1] at hc2
 have HW2 : Hid (w2 = (w.alloc (.cells #[.pointer (some ⟨b, 0, none⟩)] 81)).alloc (.cells #[.int .i64 k, .string nm, .slice px XN cx, .slice py YN cy, .slice pz ZN cz] 94)) := by show _ = _; rw [hw2, hw1]
 have HI := Lib.hid hi2
 have HK := Lib.hid hk2
 have HP := Lib.hid hc1'
 have HC := Lib.hid hc2
 have HS2 := Lib.hid hs2
 have HNB : Hid (w.heap.size ≠ b ∧ w.heap.size + 1 ≠ b) := ⟨by omega, by omega⟩
 have HS := Lib.hid hS
 have HV := Lib.hid hvx
 have HN := Lib.hid hN
 have HE := Lib.hid hE
 unfold stmtV
 simp only [Tr.S.kind, Tr.S.name]
 clear hI hE hS hw1 hw2 hs1 hs2 hc1 hc2 hi1 hi2 hk2 hc1' hvx hN hok hlt h3 h4
 rcases hf with ⟨rfl, rfl⟩ | ⟨rfl, rfl⟩ | ⟨rfl, rfl⟩ | ⟨rfl, hn1⟩ | ⟨rfl, rfl⟩ | ⟨rfl, rfl⟩ | ⟨rfl, rfl⟩ | ⟨rfl, rfl⟩
 ·obtain ⟨x, rfl⟩ : ∃ x, xs = [x] := by
   match xs, HN.out with
   | [x], _ => exact ⟨x, rfl⟩
  change l.length + ([108, 101, 116, 32] ++ nm.data.toList ++ [32, 61, 32] ++ Sy.text x).length ≤ _ at hlen
  show Calls _ _ _ _ (PrPost B b l ([108, 101, 116, 32] ++ nm.data.toList ++ [32, 61, 32] ++ Sy.text x) deep w)
  have HL := Lib.hid hlen
  clear hlen
  have kw := wr_any HI.out [⟨#[108, 101, 116, 32]⟩, nm, ⟨#[32, 61, 32]⟩] 3 #[.string ⟨#[108, 101, 116, 32]⟩, .string nm, .string ⟨#[32, 61, 32]⟩] ([108, 101, 116, 32] ++ nm.data.toList ++ [32, 61, 32]) rfl rfl (by simp [flatB]) (by have hlen := HL.out; first | omega | (simp only [List.length_cons, List.length_nil] at hlen ⊢; omega) | (simp only [List.length_append, List.length_cons, List.length_nil] at hlen ⊢; omega)) (by decide)
  rw [HS2.out] at kw
  have KW := Lib.hid kw
  clear kw
  have zp := cell_of_blkP HP.out (j := 0) (u := .pointer (some ⟨b, 0, none⟩)) rfl
  have z1 := cell_of_blkP HC.out (j := 1) (u := .string nm) rfl
  go_enter Tryz.func174, Tryz.ntmps174
  go_wp2_with fail
  rw [← HW2.out]
  clear HW2
  refine KW.out.mono ?_
  rintro e' v1 ⟨rfl, hs, hk⟩
  have HI1 := Lib.hid (HI.out.next hs hk)
  have HK1 := Lib.hid (HK.out.trans hk)
  have HP1 := Lib.hid (hk.box HP.out HNB.out.1 (by decide))
  have HC1 := Lib.hid (hk.box HC.out HNB.out.2 (by decide))
  clear hs hk zp z1
  have ka := arg_any HE.out _ HV.out _ _ cx HS.out HN.out 0 x rfl 1 _ _ _ _ w.heap.size (w.heap.size + 1) B b _ deep v1 HI1.out HP1.out HC1.out (by have hlen := HL.out; rw [Sy.par_one]; first | omega | (simp only [List.length_cons, List.length_nil] at hlen ⊢; omega) | (simp only [List.length_append, List.length_cons, List.length_nil] at hlen ⊢; omega))
  rw [Sy.par_one] at ka
  have KA := Lib.hid ka
  clear ka
  have zp : True := trivial
  go_wp2_with fail
  refine KA.out.mono ?_
  rintro e' v2 ⟨rfl, hs, hk⟩
  have HI2 := Lib.hid (HI1.out.next hs hk)
  have HK2 := Lib.hid (HK1.out.trans hk)
  have HP2 := Lib.hid (hk.box HP1.out HNB.out.1 (by decide))
  have HC2 := Lib.hid (hk.box HC1.out HNB.out.2 (by decide))
  clear hs hk zp
  go_wp2_with fail
  go_end0
  exact ⟨rfl, by have h1 := HI2.out.st; first | exact h1 | (simp only [List.append_assoc] at h1 ⊢; exact h1) | (simp only [List.append_assoc, List.nil_append] at h1 ⊢; exact h1), HK2.out⟩
 ·obtain ⟨x, rfl⟩ : ∃ x, xs = [x] := by
   match xs, HN.out with
   | [x], _ => exact ⟨x, rfl⟩
  change l.length + (nm.data.toList ++ [32, 61, 32] ++ Sy.text x).length ≤ _ at hlen
  show Calls _ _ _ _ (PrPost B b l (nm.data.toList ++ [32, 61, 32] ++ Sy.text x) deep w)
  have HL := Lib.hid hlen
  clear hlen
  have kw := wr_any HI.out [nm, ⟨#[32, 61, 32]⟩] 2 #[.string nm, .string ⟨#[32, 61, 32]⟩] (nm.data.toList ++ [32, 61, 32]) rfl rfl (by simp [flatB]) (by have hlen := HL.out; first | omega | (simp only [List.length_cons, List.length_nil] at hlen ⊢; omega) | (simp only [List.length_append, List.length_cons, List.length_nil] at hlen ⊢; omega)) (by decide)
  rw [HS2.out] at kw
  have KW := Lib.hid kw
  clear kw
  have zp := cell_of_blkP HP.out (j := 0) (u := .pointer (some ⟨b, 0, none⟩)) rfl
  have z1 := cell_of_blkP HC.out (j := 1) (u := .string nm) rfl
  go_enter Tryz.func174, Tryz.ntmps174
  go_wp2_with fail
  rw [← HW2.out]
  clear HW2
  refine KW.out.mono ?_
  rintro e' v1 ⟨rfl, hs, hk⟩
  have HI1 := Lib.hid (HI.out.next hs hk)
  have HK1 := Lib.hid (HK.out.trans hk)
  have HP1 := Lib.hid (hk.box HP.out HNB.out.1 (by decide))
  have HC1 := Lib.hid (hk.box HC.out HNB.out.2 (by decide))
  clear hs hk zp z1
  have ka := arg_any HE.out _ HV.out _ _ cx HS.out HN.out 0 x rfl 1 _ _ _ _ w.heap.size (w.heap.size + 1) B b _ deep v1 HI1.out HP1.out HC1.out (by have hlen := HL.out; rw [Sy.par_one]; first | omega | (simp only [List.length_cons, List.length_nil] at hlen ⊢; omega) | (simp only [List.length_append, List.length_cons, List.length_nil] at hlen ⊢; omega))
  rw [Sy.par_one] at ka
  have KA := Lib.hid ka
  clear ka
  have zp : True := trivial
  go_wp2_with fail
  refine KA.out.mono ?_
  rintro e' v2 ⟨rfl, hs, hk⟩
  have HI2 := Lib.hid (HI1.out.next hs hk)
  have HK2 := Lib.hid (HK1.out.trans hk)
  have HP2 := Lib.hid (hk.box HP1.out HNB.out.1 (by decide))
  have HC2 := Lib.hid (hk.box HC1.out HNB.out.2 (by decide))
  clear hs hk zp
  go_wp2_with fail
  go_end0
  exact ⟨rfl, by have h1 := HI2.out.st; first | exact h1 | (simp only [List.append_assoc] at h1 ⊢; exact h1) | (simp only [List.append_assoc, List.nil_append] at h1 ⊢; exact h1), HK2.out⟩
 ·obtain ⟨x, y, rfl⟩ : ∃ x y, xs = [x, y] := by
   match xs, HN.out with
   | [x, y], _ => exact ⟨x, y, rfl⟩
  change l.length + (Sy.par 9 (Sy.level x, Sy.text x) ++ [46] ++ nm.data.toList ++ [32, 61, 32] ++ Sy.text y).length ≤ _ at hlen
  show Calls _ _ _ _ (PrPost B b l (Sy.par 9 (Sy.level x, Sy.text x) ++ [46] ++ nm.data.toList ++ [32, 61, 32] ++ Sy.text y) deep w)
  have HL := Lib.hid hlen
  clear hlen
  have ka := arg_any HE.out _ HV.out _ _ cx HS.out HN.out 0 x rfl 9 _ _ _ _ w.heap.size (w.heap.size + 1) B b _ deep w2 HI.out HP.out HC.out (by have hlen := HL.out; first | omega | (simp only [List.length_cons, List.length_nil] at hlen ⊢; omega) | (simp only [List.length_append, List.length_cons, List.length_nil] at hlen ⊢; omega))
  have KA := Lib.hid ka
  clear ka
  have zp : True := trivial
  go_enter Tryz.func174, Tryz.ntmps174
  go_wp2_with fail
  rw [← HW2.out]
  clear HW2
  refine KA.out.mono ?_
  rintro e' v1 ⟨rfl, hs, hk⟩
  have HI1 := Lib.hid (HI.out.next hs hk)
  have HK1 := Lib.hid (HK.out.trans hk)
  have HP1 := Lib.hid (hk.box HP.out HNB.out.1 (by decide))
  have HC1 := Lib.hid (hk.box HC.out HNB.out.2 (by decide))
  clear hs hk zp
  have kw := wr_any HI1.out [⟨#[46]⟩, nm, ⟨#[32, 61, 32]⟩] 3 #[.string ⟨#[46]⟩, .string nm, .string ⟨#[32, 61, 32]⟩] ([46] ++ nm.data.toList ++ [32, 61, 32]) rfl rfl (by simp [flatB]) (by have hlen := HL.out; first | omega | (simp only [List.length_cons, List.length_nil] at hlen ⊢; omega) | (simp only [List.length_append, List.length_cons, List.length_nil] at hlen ⊢; omega)) (by decide)
  have KW := Lib.hid kw
  clear kw
  have zp := cell_of_blkP HP1.out (j := 0) (u := .pointer (some ⟨b, 0, none⟩)) rfl
  have z1 := cell_of_blkP HC1.out (j := 1) (u := .string nm) rfl
  go_wp2_with fail
  refine KW.out.mono ?_
  rintro e' v2 ⟨rfl, hs, hk⟩
  have HI2 := Lib.hid (HI1.out.next hs hk)
  have HK2 := Lib.hid (HK1.out.trans hk)
  have HP2 := Lib.hid (hk.box HP1.out HNB.out.1 (by decide))
  have HC2 := Lib.hid (hk.box HC1.out HNB.out.2 (by decide))
  clear hs hk zp z1
  have ka := arg_any HE.out _ HV.out _ _ cx HS.out HN.out 1 y rfl 1 _ _ _ _ w.heap.size (w.heap.size + 1) B b _ deep v2 HI2.out HP2.out HC2.out (by have hlen := HL.out; rw [Sy.par_one]; first | omega | (simp only [List.length_cons, List.length_nil] at hlen ⊢; omega) | (simp only [List.length_append, List.length_cons, List.length_nil] at hlen ⊢; omega))
  rw [Sy.par_one] at ka
  have KA := Lib.hid ka
  clear ka
  have zp : True := trivial
  go_wp2_with fail
  refine KA.out.mono ?_
  rintro e' v3 ⟨rfl, hs, hk⟩
  have HI3 := Lib.hid (HI2.out.next hs hk)
  have HK3 := Lib.hid (HK2.out.trans hk)
  have HP3 := Lib.hid (hk.box HP2.out HNB.out.1 (by decide))
  have HC3 := Lib.hid (hk.box HC2.out HNB.out.2 (by decide))
  clear hs hk zp
  go_wp2_with fail
  go_end0
  exact ⟨rfl, by have h1 := HI3.out.st; first | exact h1 | (simp only [List.append_assoc] at h1 ⊢; exact h1) | (simp only [List.append_assoc, List.nil_append] at h1 ⊢; exact h1), HK3.out⟩
 ·obtain ⟨x, xr, rfl⟩ : ∃ x xr, xs = x :: xr := by
   match xs, HN.out with
   | x :: xr, _ => exact ⟨x, xr, rfl⟩
   | [], h0 => simp at h0; omega
  obtain ⟨xb, xo, _, rfl, _⟩ := HS.out.get (j := 0) (e := x) rfl
  have hmm : (xr.map fun e => (Sy.level e, Sy.text e)).map Prod.snd = xr.map Sy.text := by rw [List.map_map]; rfl
  change l.length + ([115, 101, 110, 100, 32] ++ Sy.par 8 (Sy.level x, Sy.text x) ++ [46] ++ nm.data.toList ++ [40] ++ Sy.commas ((xr.map fun e => (Sy.level e, Sy.text e)).map Prod.snd) ++ [41]).length ≤ _ at hlen
  show Calls _ _ _ _ (PrPost B b l ([115, 101, 110, 100, 32] ++ Sy.par 8 (Sy.level x, Sy.text x) ++ [46] ++ nm.data.toList ++ [40] ++ Sy.commas ((xr.map fun e => (Sy.level e, Sy.text e)).map Prod.snd) ++ [41]) deep w)
  rw [hmm] at hlen ⊢
  clear hmm
  have HL := Lib.hid hlen
  clear hlen
  have kw := wr_any HI.out [⟨#[115, 101, 110, 100, 32]⟩] 1 #[.string ⟨#[115, 101, 110, 100, 32]⟩] ([115, 101, 110, 100, 32]) rfl rfl (by simp [flatB]) (by have hlen := HL.out; first | omega | (simp only [List.length_cons, List.length_nil] at hlen ⊢; omega) | (simp only [List.length_append, List.length_cons, List.length_nil] at hlen ⊢; omega)) (by decide)
  rw [HS2.out] at kw
  have KW := Lib.hid kw
  clear kw
  have zp := cell_of_blkP HP.out (j := 0) (u := .pointer (some ⟨b, 0, none⟩)) rfl
  go_enter Tryz.func174, Tryz.ntmps174
  go_wp2_with fail
  rw [← HW2.out]
  clear HW2
  refine KW.out.mono ?_
  rintro e' v1 ⟨rfl, hs, hk⟩
  have HI1 := Lib.hid (HI.out.next hs hk)
  have HK1 := Lib.hid (HK.out.trans hk)
  have HP1 := Lib.hid (hk.box HP.out HNB.out.1 (by decide))
  have HC1 := Lib.hid (hk.box HC.out HNB.out.2 (by decide))
  clear hs hk zp
  have ka := arg_any HE.out _ HV.out _ _ cx HS.out HN.out 0 x rfl 8 _ _ _ _ w.heap.size (w.heap.size + 1) B b _ deep v1 HI1.out HP1.out HC1.out (by have hlen := HL.out; first | omega | (simp only [List.length_cons, List.length_nil] at hlen ⊢; omega) | (simp only [List.length_append, List.length_cons, List.length_nil] at hlen ⊢; omega))
  have KA := Lib.hid ka
  clear ka
  have zp : True := trivial
  go_wp2_with fail
  refine KA.out.mono ?_
  rintro e' v2 ⟨rfl, hs, hk⟩
  have HI2 := Lib.hid (HI1.out.next hs hk)
  have HK2 := Lib.hid (HK1.out.trans hk)
  have HP2 := Lib.hid (hk.box HP1.out HNB.out.1 (by decide))
  have HC2 := Lib.hid (hk.box HC1.out HNB.out.2 (by decide))
  clear hs hk zp
  have kw := wr_any HI2.out [⟨#[46]⟩, nm] 2 #[.string ⟨#[46]⟩, .string nm] ([46] ++ nm.data.toList) rfl rfl (by simp [flatB]) (by have hlen := HL.out; first | omega | (simp only [List.length_cons, List.length_nil] at hlen ⊢; omega) | (simp only [List.length_append, List.length_cons, List.length_nil] at hlen ⊢; omega)) (by decide)
  have KW := Lib.hid kw
  clear kw
  have zp := cell_of_blkP HP2.out (j := 0) (u := .pointer (some ⟨b, 0, none⟩)) rfl
  have z1 := cell_of_blkP HC2.out (j := 1) (u := .string nm) rfl
  go_wp2_with fail
  refine KW.out.mono ?_
  rintro e' v3 ⟨rfl, hs, hk⟩
  have HI3 := Lib.hid (HI2.out.next hs hk)
  have HK3 := Lib.hid (HK2.out.trans hk)
  have HP3 := Lib.hid (hk.box HP2.out HNB.out.1 (by decide))
  have HC3 := Lib.hid (hk.box HC2.out HNB.out.2 (by decide))
  clear hs hk zp z1
  have hsl := HS.out.tail (by rw [HN.out]; omega)
  obtain ⟨pd, hpd⟩ : ∃ q, (if cx = 1 then (some ⟨xb, xo, none⟩ : Option Addr) else some ⟨xb, xo + 6, none⟩) = q := ⟨_, rfl⟩
  rw [hpd] at hsl
  have kl := list_any (exprC HE.out (Tr.E.deep.deeps (xr))) (xr) (fun y hy => by obtain ⟨q, hq⟩ := List.getElem?_of_mem hy; exact Tr.E.deeps_get _ q y hq) (fun y hy => HV.out y (List.mem_of_mem_drop (i := 1) hy)) pd _ _ (by first | rfl | (have h9 := HN.out; simp only [List.length_cons] at h9; omega)) hsl B b _ deep v3.drew HI3.out.drew (by have hlen := HL.out; first | omega | (simp only [List.length_cons, List.length_nil] at hlen ⊢; omega) | (simp only [List.length_append, List.length_cons, List.length_nil] at hlen ⊢; omega))
  have KL := Lib.hid kl
  clear kl hsl
  have zp := cell_of_blkP HP3.out (j := 0) (u := .pointer (some ⟨b, 0, none⟩)) rfl
  have z2 := cell_of_blkP HC3.out (j := 2) (u := .slice (some ⟨xb, xo, none⟩) XN cx) rfl
  have hl1 := cell_lt' z2
  have hxc1 : 1 ≤ cx := by
   obtain ⟨q1, c1, e1, h1⟩ := HS.out.form
   have h2 := (h1 (by simp)).1
   injection e1 with _ ea eb
   have h3 := HN.out
   simp only [List.length_cons] at h2 h3
   omega
  have hxn1 : 1 ≤ XN := by omega
  have hxn2 : (1 : Int) ≤ ((XN : Nat) : Int) := by omega
  go_wp2_with fail
  go_still_tail 4, (by kernel_rfl)
  change wpList _ _ _ _ _ v3.drew
  have HKd := Lib.hid HK3.out.drew
  have HId := Lib.hid HI3.out.drew
  obtain ⟨wd, hwd⟩ : ∃ q, q = v3.drew := ⟨_, rfl⟩
  rw [← hwd] at HKd HId KL ⊢
  clear hwd zp z2 hl1
  go_wp2_with fail
  refine KL.out.mono ?_
  rintro e' v4 ⟨rfl, hs, hk⟩
  have HI4 := Lib.hid (HId.out.next hs hk)
  have HK4 := Lib.hid (HKd.out.trans hk)
  clear hs hk
  go_wp2_with fail
  go_end0
  exact ⟨rfl, by have h1 := HI4.out.st; first | exact h1 | (simp only [List.append_assoc] at h1 ⊢; exact h1) | (simp only [List.append_assoc, List.nil_append] at h1 ⊢; exact h1), HK4.out⟩
 ·obtain ⟨x, rfl⟩ : ∃ x, xs = [x] := by
   match xs, HN.out with
   | [x], _ => exact ⟨x, rfl⟩
  change l.length + ([112, 114, 105, 110, 116, 32] ++ Sy.text x).length ≤ _ at hlen
  show Calls _ _ _ _ (PrPost B b l ([112, 114, 105, 110, 116, 32] ++ Sy.text x) deep w)
  have HL := Lib.hid hlen
  clear hlen
  have kw := wr_any HI.out [⟨#[112, 114, 105, 110, 116, 32]⟩] 1 #[.string ⟨#[112, 114, 105, 110, 116, 32]⟩] ([112, 114, 105, 110, 116, 32]) rfl rfl (by simp [flatB]) (by have hlen := HL.out; first | omega | (simp only [List.length_cons, List.length_nil] at hlen ⊢; omega) | (simp only [List.length_append, List.length_cons, List.length_nil] at hlen ⊢; omega)) (by decide)
  rw [HS2.out] at kw
  have KW := Lib.hid kw
  clear kw
  have zp := cell_of_blkP HP.out (j := 0) (u := .pointer (some ⟨b, 0, none⟩)) rfl
  go_enter Tryz.func174, Tryz.ntmps174
  go_wp2_with fail
  rw [← HW2.out]
  clear HW2
  refine KW.out.mono ?_
  rintro e' v1 ⟨rfl, hs, hk⟩
  have HI1 := Lib.hid (HI.out.next hs hk)
  have HK1 := Lib.hid (HK.out.trans hk)
  have HP1 := Lib.hid (hk.box HP.out HNB.out.1 (by decide))
  have HC1 := Lib.hid (hk.box HC.out HNB.out.2 (by decide))
  clear hs hk zp
  have ka := arg_any HE.out _ HV.out _ _ cx HS.out HN.out 0 x rfl 1 _ _ _ _ w.heap.size (w.heap.size + 1) B b _ deep v1 HI1.out HP1.out HC1.out (by have hlen := HL.out; rw [Sy.par_one]; first | omega | (simp only [List.length_cons, List.length_nil] at hlen ⊢; omega) | (simp only [List.length_append, List.length_cons, List.length_nil] at hlen ⊢; omega))
  rw [Sy.par_one] at ka
  have KA := Lib.hid ka
  clear ka
  have zp : True := trivial
  go_wp2_with fail
  refine KA.out.mono ?_
  rintro e' v2 ⟨rfl, hs, hk⟩
  have HI2 := Lib.hid (HI1.out.next hs hk)
  have HK2 := Lib.hid (HK1.out.trans hk)
  have HP2 := Lib.hid (hk.box HP1.out HNB.out.1 (by decide))
  have HC2 := Lib.hid (hk.box HC1.out HNB.out.2 (by decide))
  clear hs hk zp
  go_wp2_with fail
  go_end0
  exact ⟨rfl, by have h1 := HI2.out.st; first | exact h1 | (simp only [List.append_assoc] at h1 ⊢; exact h1) | (simp only [List.append_assoc, List.nil_append] at h1 ⊢; exact h1), HK2.out⟩
 ·obtain ⟨x, y, rfl⟩ : ∃ x y, xs = [x, y] := by
   match xs, HN.out with
   | [x, y], _ => exact ⟨x, y, rfl⟩
  change l.length + ([109, 111, 118, 101, 32] ++ Sy.text x ++ [32, 116, 111, 32] ++ Sy.text y).length ≤ _ at hlen
  show Calls _ _ _ _ (PrPost B b l ([109, 111, 118, 101, 32] ++ Sy.text x ++ [32, 116, 111, 32] ++ Sy.text y) deep w)
  have HL := Lib.hid hlen
  clear hlen
  have kw := wr_any HI.out [⟨#[109, 111, 118, 101, 32]⟩] 1 #[.string ⟨#[109, 111, 118, 101, 32]⟩] ([109, 111, 118, 101, 32]) rfl rfl (by simp [flatB]) (by have hlen := HL.out; first | omega | (simp only [List.length_cons, List.length_nil] at hlen ⊢; omega) | (simp only [List.length_append, List.length_cons, List.length_nil] at hlen ⊢; omega)) (by decide)
  rw [HS2.out] at kw
  have KW := Lib.hid kw
  clear kw
  have zp := cell_of_blkP HP.out (j := 0) (u := .pointer (some ⟨b, 0, none⟩)) rfl
  go_enter Tryz.func174, Tryz.ntmps174
  go_wp2_with fail
  rw [← HW2.out]
  clear HW2
  refine KW.out.mono ?_
  rintro e' v1 ⟨rfl, hs, hk⟩
  have HI1 := Lib.hid (HI.out.next hs hk)
  have HK1 := Lib.hid (HK.out.trans hk)
  have HP1 := Lib.hid (hk.box HP.out HNB.out.1 (by decide))
  have HC1 := Lib.hid (hk.box HC.out HNB.out.2 (by decide))
  clear hs hk zp
  have ka := arg_any HE.out _ HV.out _ _ cx HS.out HN.out 0 x rfl 1 _ _ _ _ w.heap.size (w.heap.size + 1) B b _ deep v1 HI1.out HP1.out HC1.out (by have hlen := HL.out; rw [Sy.par_one]; first | omega | (simp only [List.length_cons, List.length_nil] at hlen ⊢; omega) | (simp only [List.length_append, List.length_cons, List.length_nil] at hlen ⊢; omega))
  rw [Sy.par_one] at ka
  have KA := Lib.hid ka
  clear ka
  have zp : True := trivial
  go_wp2_with fail
  refine KA.out.mono ?_
  rintro e' v2 ⟨rfl, hs, hk⟩
  have HI2 := Lib.hid (HI1.out.next hs hk)
  have HK2 := Lib.hid (HK1.out.trans hk)
  have HP2 := Lib.hid (hk.box HP1.out HNB.out.1 (by decide))
  have HC2 := Lib.hid (hk.box HC1.out HNB.out.2 (by decide))
  clear hs hk zp
  have kw := wr_any HI2.out [⟨#[32, 116, 111, 32]⟩] 1 #[.string ⟨#[32, 116, 111, 32]⟩] ([32, 116, 111, 32]) rfl rfl (by simp [flatB]) (by have hlen := HL.out; first | omega | (simp only [List.length_cons, List.length_nil] at hlen ⊢; omega) | (simp only [List.length_append, List.length_cons, List.length_nil] at hlen ⊢; omega)) (by decide)
  have KW := Lib.hid kw
  clear kw
  have zp := cell_of_blkP HP2.out (j := 0) (u := .pointer (some ⟨b, 0, none⟩)) rfl
  go_wp2_with fail
  refine KW.out.mono ?_
  rintro e' v3 ⟨rfl, hs, hk⟩
  have HI3 := Lib.hid (HI2.out.next hs hk)
  have HK3 := Lib.hid (HK2.out.trans hk)
  have HP3 := Lib.hid (hk.box HP2.out HNB.out.1 (by decide))
  have HC3 := Lib.hid (hk.box HC2.out HNB.out.2 (by decide))
  clear hs hk zp
  have ka := arg_any HE.out _ HV.out _ _ cx HS.out HN.out 1 y rfl 1 _ _ _ _ w.heap.size (w.heap.size + 1) B b _ deep v3 HI3.out HP3.out HC3.out (by have hlen := HL.out; rw [Sy.par_one]; first | omega | (simp only [List.length_cons, List.length_nil] at hlen ⊢; omega) | (simp only [List.length_append, List.length_cons, List.length_nil] at hlen ⊢; omega))
  rw [Sy.par_one] at ka
  have KA := Lib.hid ka
  clear ka
  have zp : True := trivial
  go_wp2_with fail
  refine KA.out.mono ?_
  rintro e' v4 ⟨rfl, hs, hk⟩
  have HI4 := Lib.hid (HI3.out.next hs hk)
  have HK4 := Lib.hid (HK3.out.trans hk)
  have HP4 := Lib.hid (hk.box HP3.out HNB.out.1 (by decide))
  have HC4 := Lib.hid (hk.box HC3.out HNB.out.2 (by decide))
  clear hs hk zp
  go_wp2_with fail
  go_end0
  exact ⟨rfl, by have h1 := HI4.out.st; first | exact h1 | (simp only [List.append_assoc] at h1 ⊢; exact h1) | (simp only [List.append_assoc, List.nil_append] at h1 ⊢; exact h1), HK4.out⟩
 ·obtain ⟨x, y, rfl⟩ : ∃ x y, xs = [x, y] := by
   match xs, HN.out with
   | [x, y], _ => exact ⟨x, y, rfl⟩
  obtain ⟨xb, xo, _, rfl, _⟩ := HS.out.get (j := 0) (e := x) rfl
  change l.length + ([119, 97, 116, 99, 104, 32] ++ Sy.text x ++ [32, 98, 121, 32] ++ nm.data.toList ++ [40] ++ Sy.text y ++ [41]).length ≤ _ at hlen
  show Calls _ _ _ _ (PrPost B b l ([119, 97, 116, 99, 104, 32] ++ Sy.text x ++ [32, 98, 121, 32] ++ nm.data.toList ++ [40] ++ Sy.text y ++ [41]) deep w)
  have HL := Lib.hid hlen
  clear hlen
  have kw := wr_any HI.out [⟨#[119, 97, 116, 99, 104, 32]⟩] 1 #[.string ⟨#[119, 97, 116, 99, 104, 32]⟩] ([119, 97, 116, 99, 104, 32]) rfl rfl (by simp [flatB]) (by have hlen := HL.out; first | omega | (simp only [List.length_cons, List.length_nil] at hlen ⊢; omega) | (simp only [List.length_append, List.length_cons, List.length_nil] at hlen ⊢; omega)) (by decide)
  rw [HS2.out] at kw
  have KW := Lib.hid kw
  clear kw
  have zp := cell_of_blkP HP.out (j := 0) (u := .pointer (some ⟨b, 0, none⟩)) rfl
  go_enter Tryz.func174, Tryz.ntmps174
  go_wp2_with fail
  rw [← HW2.out]
  clear HW2
  refine KW.out.mono ?_
  rintro e' v1 ⟨rfl, hs, hk⟩
  have HI1 := Lib.hid (HI.out.next hs hk)
  have HK1 := Lib.hid (HK.out.trans hk)
  have HP1 := Lib.hid (hk.box HP.out HNB.out.1 (by decide))
  have HC1 := Lib.hid (hk.box HC.out HNB.out.2 (by decide))
  clear hs hk zp
  have ka := arg_any HE.out _ HV.out _ _ cx HS.out HN.out 0 x rfl 1 _ _ _ _ w.heap.size (w.heap.size + 1) B b _ deep v1 HI1.out HP1.out HC1.out (by have hlen := HL.out; rw [Sy.par_one]; first | omega | (simp only [List.length_cons, List.length_nil] at hlen ⊢; omega) | (simp only [List.length_append, List.length_cons, List.length_nil] at hlen ⊢; omega))
  rw [Sy.par_one] at ka
  have KA := Lib.hid ka
  clear ka
  have zp : True := trivial
  go_wp2_with fail
  refine KA.out.mono ?_
  rintro e' v2 ⟨rfl, hs, hk⟩
  have HI2 := Lib.hid (HI1.out.next hs hk)
  have HK2 := Lib.hid (HK1.out.trans hk)
  have HP2 := Lib.hid (hk.box HP1.out HNB.out.1 (by decide))
  have HC2 := Lib.hid (hk.box HC1.out HNB.out.2 (by decide))
  clear hs hk zp
  have kw := wr_any HI2.out [⟨#[32, 98, 121, 32]⟩, nm] 2 #[.string ⟨#[32, 98, 121, 32]⟩, .string nm] ([32, 98, 121, 32] ++ nm.data.toList) rfl rfl (by simp [flatB]) (by have hlen := HL.out; first | omega | (simp only [List.length_cons, List.length_nil] at hlen ⊢; omega) | (simp only [List.length_append, List.length_cons, List.length_nil] at hlen ⊢; omega)) (by decide)
  have KW := Lib.hid kw
  clear kw
  have zp := cell_of_blkP HP2.out (j := 0) (u := .pointer (some ⟨b, 0, none⟩)) rfl
  have z1 := cell_of_blkP HC2.out (j := 1) (u := .string nm) rfl
  go_wp2_with fail
  refine KW.out.mono ?_
  rintro e' v3 ⟨rfl, hs, hk⟩
  have HI3 := Lib.hid (HI2.out.next hs hk)
  have HK3 := Lib.hid (HK2.out.trans hk)
  have HP3 := Lib.hid (hk.box HP2.out HNB.out.1 (by decide))
  have HC3 := Lib.hid (hk.box HC2.out HNB.out.2 (by decide))
  clear hs hk zp z1
  have hsl := HS.out.tail (by rw [HN.out]; omega)
  obtain ⟨pd, hpd⟩ : ∃ q, (if cx = 1 then (some ⟨xb, xo, none⟩ : Option Addr) else some ⟨xb, xo + 6, none⟩) = q := ⟨_, rfl⟩
  rw [hpd] at hsl
  have kl := list_any (exprC HE.out (Tr.E.deep.deeps ([y]))) ([y]) (fun y hy => by obtain ⟨q, hq⟩ := List.getElem?_of_mem hy; exact Tr.E.deeps_get _ q y hq) (fun y hy => HV.out y (List.mem_of_mem_drop (i := 1) hy)) pd _ _ (by first | rfl | (have h9 := HN.out; simp only [List.length_cons] at h9; omega)) hsl B b _ deep v3.drew HI3.out.drew (by have hlen := HL.out; rw [show Sy.commas (List.map Sy.text [y]) = Sy.text y from rfl]; first | omega | (simp only [List.length_cons, List.length_nil] at hlen ⊢; omega) | (simp only [List.length_append, List.length_cons, List.length_nil] at hlen ⊢; omega))
  rw [show Sy.commas (List.map Sy.text [y]) = Sy.text y from rfl] at kl
  have KL := Lib.hid kl
  clear kl hsl
  have zp := cell_of_blkP HP3.out (j := 0) (u := .pointer (some ⟨b, 0, none⟩)) rfl
  have z2 := cell_of_blkP HC3.out (j := 2) (u := .slice (some ⟨xb, xo, none⟩) 2 cx) rfl
  have hl1 := cell_lt' z2
  have hxc1 : 1 ≤ cx := by
   obtain ⟨q1, c1, e1, h1⟩ := HS.out.form
   have h2 := (h1 (by simp)).1
   injection e1 with _ ea eb
   have h3 := HN.out
   simp only [List.length_cons] at h2 h3
   omega
  have hxn1 : 1 ≤ 2 := by omega
  have hxn2 : (1 : Int) ≤ ((2 : Nat) : Int) := by omega
  go_wp2_with fail
  go_still_tail 4, (by kernel_rfl)
  change wpList _ _ _ _ _ v3.drew
  have HKd := Lib.hid HK3.out.drew
  have HId := Lib.hid HI3.out.drew
  obtain ⟨wd, hwd⟩ : ∃ q, q = v3.drew := ⟨_, rfl⟩
  rw [← hwd] at HKd HId KL ⊢
  clear hwd zp z2 hl1
  go_wp2_with fail
  refine KL.out.mono ?_
  rintro e' v4 ⟨rfl, hs, hk⟩
  have HI4 := Lib.hid (HId.out.next hs hk)
  have HK4 := Lib.hid (HKd.out.trans hk)
  clear hs hk
  go_wp2_with fail
  go_end0
  exact ⟨rfl, by have h1 := HI4.out.st; first | exact h1 | (simp only [List.append_assoc] at h1 ⊢; exact h1) | (simp only [List.append_assoc, List.nil_append] at h1 ⊢; exact h1), HK4.out⟩
 ·skip
  change l.length + ([114, 101, 116, 117, 114, 110]).length ≤ _ at hlen
  show Calls _ _ _ _ (PrPost B b l ([114, 101, 116, 117, 114, 110]) deep w)
  have HL := Lib.hid hlen
  clear hlen
  have kw := wr_any HI.out [⟨#[114, 101, 116, 117, 114, 110]⟩] 1 #[.string ⟨#[114, 101, 116, 117, 114, 110]⟩] ([114, 101, 116, 117, 114, 110]) rfl rfl (by simp [flatB]) (by have hlen := HL.out; first | omega | (simp only [List.length_cons, List.length_nil] at hlen ⊢; omega) | (simp only [List.length_append, List.length_cons, List.length_nil] at hlen ⊢; omega)) (by decide)
  rw [HS2.out] at kw
  have KW := Lib.hid kw
  clear kw
  have zp := cell_of_blkP HP.out (j := 0) (u := .pointer (some ⟨b, 0, none⟩)) rfl
  go_enter Tryz.func174, Tryz.ntmps174
  go_wp2_with fail
  rw [← HW2.out]
  clear HW2
  refine KW.out.mono ?_
  rintro e' v1 ⟨rfl, hs, hk⟩
  have HI1 := Lib.hid (HI.out.next hs hk)
  have HK1 := Lib.hid (HK.out.trans hk)
  have HP1 := Lib.hid (hk.box HP.out HNB.out.1 (by decide))
  have HC1 := Lib.hid (hk.box HC.out HNB.out.2 (by decide))
  clear hs hk zp
  go_wp2_with fail
  go_end0
  exact ⟨rfl, by have h1 := HI1.out.st; first | exact h1 | (simp only [List.append_assoc] at h1 ⊢; exact h1) | (simp only [List.append_assoc, List.nil_append] at h1 ⊢; exact h1), HK1.out⟩
end Go.Proofs.YtdckddkalgnlpaaGreatDoor
namespace Go.Proofs.YtdckddkalgnlpaaGreatDoor
open Go.RowKit Go.Maps
theorem wpList_insert_own {H : Type} {P : Program} (w : World) {ops : Array Oper} {rest : List Oper} {o : Oper} {a : Act} {Q : Exit → Act → World → Prop}
 (hg : o.guard = none) (m x v : Operand) (t : TypeId) (hop : o.op = Op.insert t m x v)
 (k e : TypeId) (K : Keyed P k) (ht : P.underlying t = some (.map k e)) (R : Value → Option (DataW H × List MemPlace)) (b n : Nat) (D : DataW H)
 (hm : a.eval m = .map (some b)) (hown : w.ownsMap P k R b n D) (hn : n < maxLen) (key val : Value) (kl : Lit) (hx : a.eval x = key) (hv : a.eval v = val) (hkey : keyOf P k key = some kl)
 (d : DataW H) (ps : List MemPlace) (hval : R val = some (d, ps))
 (hK : ∀ w', w'.ownsMap P k R b (n + 1) (D.put kl d) → w.grownBy w' (some b) → wpList P ops Q rest (a.put o.dst undef) w') :
 wpList P ops Q (o :: rest) a w := by
 refine wpList_plain hg fun K' hK' => ?_
 obtain ⟨w', hrun, r1, r2⟩ := hown.update K ht hn hkey hval
 unfold Oper.wp
 simp [execOp, hop, hm, hx, hv, hrun, Result.andThen]
 exact hK' _ _ (hK w' r1 r2)
def stCells (k : Int) (nm : ByteArray) (x y z : Value) : Array Value := #[.int .i64 k, .string nm, x, y, z]
set_option maxRecDepth 100000 in
set_option maxHeartbeats 4000000 in
theorem plainStmt_any {w0 : World} (hE : PrEnv w0) (s : Tr.S) (hvs : Tr.validS s = true) (h3 : s.kind ≠ 3) (h4 : s.kind ≠ 4) (px py pz : Option Addr) (XN cx YN cy ZN cz : Nat) (hN : s.exprs.length = XN) (hS : SlE w0 (.slice px XN cx) s.exprs) (pb sb B b : Nat) (l : List UInt8) (deep : Int) (w : World) (hI : PrIn w0 B b l deep w)
 (hpb : w.heap[pb]? = some (.cells #[.pointer (some ⟨b, 0, none⟩)] 81 (0, 0))) (hsb : w.heap[sb]? = some (.cells (stCells s.kind s.name (.slice px XN cx) (.slice py YN cy) (.slice pz ZN cz)) 94 (0, 0))) (hpbb : pb ≠ b)
 (hlen : l.length + ((Sy.simple s.kind s.name.data.toList (Sy.texts s.exprs)).length + 1) ≤ 140737488355328) :
 Calls Tryz.prog 173 #[.pointer (some ⟨pb, 0, none⟩), .pointer (some ⟨sb, 0, none⟩)] w (PrPost B b l (Sy.simple s.kind s.name.data.toList (Sy.texts s.exprs) ++ [59]) deep w) := by
 have ks := simple_any hE s hvs h3 h4 px py pz XN cx YN cy ZN cz hN hS B b l deep w hI (by omega)
 obtain ⟨T, hT⟩ : ∃ q, Sy.simple s.kind s.name.data.toList (Sy.texts s.exprs) = q := ⟨_, rfl⟩
 rw [hT] at ks hlen ⊢
 unfold stmtV at ks
 have KS := Lib.hid ks
 have HI := Lib.hid hI
 have HP := Lib.hid hpb
 have c0 := cell_of_blkP hpb (j := 0) (u := .pointer (some ⟨b, 0, none⟩)) rfl
 have e0 := cell_of_blkP hsb (j := 0) (u := .int .i64 s.kind) rfl
 have e1 := cell_of_blkP hsb (j := 1) (u := .string s.name) rfl
 have e2 := cell_of_blkP hsb (j := 2) (u := .slice px XN cx) rfl
 have e3 := cell_of_blkP hsb (j := 3) (u := .slice py YN cy) rfl
 have e4 := cell_of_blkP hsb (j := 4) (u := .slice pz ZN cz) rfl
 clear ks hI hpb hsb hE hvs h3 h4 hN hS hT
 go_enter Tryz.func173, Tryz.ntmps173
 go_wp2_with fail
 refine KS.out.mono ?_
 rintro e' w2 ⟨rfl, hs, hk⟩
 have HI2 := Lib.hid (HI.out.next hs hk)
 have HK2 := Lib.hid hk
 have zp := cell_of_blkP (hk.box HP.out hpbb (by decide)) (j := 0) (u := .pointer (some ⟨b, 0, none⟩)) rfl
 have KW := Lib.hid (wr_any HI2.out [⟨#[59]⟩] 1 #[.string ⟨#[59]⟩] [59] rfl rfl (by simp [flatB]) (by simp only [List.length_append, List.length_cons, List.length_nil]; omega) (by decide))
 clear hs hk c0 e0 e1 e2 e3 e4
 go_wp2_with fail
 refine KW.out.mono ?_
 rintro e' w3 ⟨rfl, hs, hk⟩
 have HS3 := Lib.hid hs
 have HK3 := Lib.hid (HK2.out.trans hk)
 clear hs hk zp
 go_wp2_with fail
 go_end0
 exact ⟨rfl, by have h1 := HS3.out; rw [List.append_assoc] at h1; exact h1, HK3.out⟩
set_option maxRecDepth 100000 in
set_option maxHeartbeats 4000000 in
theorem headStmt_any {w0 : World} (hE : PrEnv w0) (head : ByteArray) (x : Tr.E) (hv : Tr.validE x = true) (px : Option Addr) (cx : Nat) (hS : SlE w0 (.slice px 1 cx) [x]) (k : Int) (nm : ByteArray) (vy vz : Value) (pb hb sb B b : Nat) (l : List UInt8) (deep : Int) (w : World) (hI : PrIn w0 B b l deep w)
 (hpb : w.heap[pb]? = some (.cells #[.pointer (some ⟨b, 0, none⟩)] 81 (0, 0))) (hhb : w.heap[hb]? = some (.cells #[.string head] 9 (0, 0))) (hsb : w.heap[sb]? = some (.cells (stCells k nm (.slice px 1 cx) vy vz) 94 (0, 0))) (hpbb : pb ≠ b) (hsbb : sb ≠ b)
 (hlen : l.length + (head.data.toList.length + (Sy.text x).length + 2) ≤ 140737488355328) :
 Calls Tryz.prog 172 #[.pointer (some ⟨pb, 0, none⟩), .pointer (some ⟨hb, 0, none⟩), .pointer (some ⟨sb, 0, none⟩)] w (PrPost B b l (head.data.toList ++ Sy.text x ++ [32, 123]) deep w) := by
 have KW := Lib.hid (wr_any hI [head] 1 #[.string head] head.data.toList rfl rfl (by simp [flatB]) (by omega) (by decide))
 have HI := Lib.hid hI
 have HP := Lib.hid hpb
 have HSB := Lib.hid hsb
 have c0 := cell_of_blkP hpb (j := 0) (u := .pointer (some ⟨b, 0, none⟩)) rfl
 have c1 := cell_of_blkP hhb (j := 0) (u := .string head) rfl
 obtain ⟨b', o', aa, rfl, _, hc, hbd, hsl⟩ := hS.get (j := 0) (e := x) rfl
 obtain ⟨pa, ca, rfl, _⟩ := hsl.form
 obtain ⟨AN, hAN⟩ : ∃ q, x.args.length = q := ⟨_, rfl⟩
 rw [hAN] at hsl hc
 have HX : Hid (∀ W l', PrIn w0 B b l' deep W → l'.length + (Sy.text x).length ≤ 140737488355328 → Calls Tryz.prog 44 #[.pointer (some ⟨b, 0, none⟩), exprV x (.slice pa AN ca), .int .i64 1] W (PrPost B b l' (Sy.text x) deep W)) := by
  intro W l' h1 h2
  have := exprC hE x.deep x pa AN ca B b l' deep W 1 (Nat.le_refl _) hv hAN hsl h1 (by rw [Sy.par_one]; exact h2)
  rw [Sy.par_one] at this
  exact this
 have HC := Lib.hid hc
 clear hI hpb hhb hsb hE hv hS hbd hsl hc hAN
 go_enter Tryz.func172, Tryz.ntmps172
 go_wp2_with fail
 refine KW.out.mono ?_
 rintro e' w2 ⟨rfl, hs, hk⟩
 have HI2 := Lib.hid (HI.out.next hs hk)
 have HK2 := Lib.hid hk
 have HP2 := Lib.hid (hk.box HP.out hpbb (by decide))
 have zp := cell_of_blkP HP2.out (j := 0) (u := .pointer (some ⟨b, 0, none⟩)) rfl
 have z2 := cell_of_blkP (hk.box HSB.out hsbb (by decide)) (j := 2) (u := .slice (some ⟨b', o', none⟩) 1 cx) rfl
 obtain ⟨y0, y1, y2, y3, y4, y5⟩ := HC.out.keep HI2.out.base
 simp only [Nat.zero_mul, Nat.add_zero] at y0 y1 y2 y3 y4 y5
 have hl1 := cell_lt' z2
 have hl2 := cell_lt' y0
 clear hs hk c0 c1
 go_wp2_with fail
 go_still_tail 5, (by kernel_rfl)
 change wpList _ _ _ _ _ w2.drew
 have HI3 := Lib.hid HI2.out.drew
 have HK3 := Lib.hid HK2.out.drew
 have HP3 : Hid (w2.drew.heap[pb]? = some (.cells #[.pointer (some ⟨b, 0, none⟩)] 81 (0, 0))) := HP2
 obtain ⟨w3, hw3⟩ : ∃ q, q = w2.drew := ⟨_, rfl⟩
 rw [← hw3] at HI3 HK3 HP3 ⊢
 clear hw3 zp z2 y0 y1 y2 y3 y4 y5 hl1 hl2
 have hcall := HX.out w3 _ HI3.out (by rw [List.length_append]; omega)
 unfold exprV at hcall
 have HCALL := Lib.hid hcall
 clear hcall
 go_wp2_with fail
 refine HCALL.out.mono ?_
 rintro e' w4 ⟨rfl, hs, hk⟩
 have HI4 := Lib.hid (HI3.out.next hs hk)
 have HK4 := Lib.hid (HK3.out.trans hk)
 have zp := cell_of_blkP (hk.box HP3.out hpbb (by decide)) (j := 0) (u := .pointer (some ⟨b, 0, none⟩)) rfl
 have KW4 := Lib.hid (wr_any HI4.out [⟨#[32, 123]⟩] 1 #[.string ⟨#[32, 123]⟩] [32, 123] rfl rfl (by simp [flatB]) (by simp only [List.length_append, List.length_cons, List.length_nil]; omega) (by decide))
 clear hs hk
 go_wp2_with fail
 refine KW4.out.mono ?_
 rintro e' w5 ⟨rfl, hs, hk⟩
 have HS5 := Lib.hid hs
 have HK5 := Lib.hid (HK4.out.trans hk)
 clear hs hk zp
 go_wp2_with fail
 go_end0
 exact ⟨rfl, by have h1 := HS5.out; simp only [List.append_assoc] at h1 ⊢; exact h1, HK5.out⟩
end Go.Proofs.YtdckddkalgnlpaaGreatDoor
namespace Go.Proofs.YtdckddkalgnlpaaGreatDoor
open Go.RowKit Go.Maps
def StmtC (w0 : World) (d : Nat) : Prop := ∀ (s : Tr.S) (px py pz : Option Addr) (XN cx YN cy ZN cz B b : Nat) (l : List UInt8) (deep : Nat) (w : World), s.deep ≤ d → Tr.validS s = true → s.exprs.length = XN → s.body.length = YN → s.els.length = ZN →
 SlE w0 (.slice px XN cx) s.exprs → SlS w0 (.slice py YN cy) s.body → SlS w0 (.slice pz ZN cz) s.els → PrIn w0 B b l deep w → deep + s.deep ≤ 1000000 → l.length + (Sy.stmt deep s).length ≤ 140737488355328 →
 Calls Tryz.prog 148 #[.pointer (some ⟨b, 0, none⟩), stmtV s (.slice px XN cx) (.slice py YN cy) (.slice pz ZN cz)] w (PrPost B b l (Sy.stmt deep s) deep w)
def StmtsC (w0 : World) (d : Nat) : Prop := ∀ (ls : List Tr.S) (p : Option Addr) (N c B b : Nat) (l : List UInt8) (deep : Nat) (w : World), Tr.S.deep.deeps ls ≤ d → Tr.validSs ls = true → ls.length = N →
 SlS w0 (.slice p N c) ls → PrIn w0 B b l deep w → deep + 1 + Tr.S.deep.deeps ls ≤ 1000000 → l.length + (Sy.stmts (deep + 1) ls).length ≤ 140737488355328 →
 Calls Tryz.prog 96 #[.pointer (some ⟨b, 0, none⟩), .slice p N c] w (PrPost B b l (Sy.stmts (deep + 1) ls) deep w)
namespace Sy
theorem stmts_app (d : Nat) : ∀ (a b : List Tr.S), stmts d (a ++ b) = stmts d a ++ stmts d b
 | [], b => by rw [List.nil_append, stmts]; rfl
 | s :: r, b => by rw [List.cons_append, stmts, stmts, stmts_app d r b, List.append_assoc]
theorem stmts_take (d : Nat) {ls : List Tr.S} {j : Nat} {s : Tr.S} (h : ls[j]? = some s) : stmts d (ls.take (j + 1)) = stmts d (ls.take j) ++ stmt d s := by
 rw [List.take_add_one, h, stmts_app]
 show _ ++ stmts d [s] = _
 rw [stmts, stmts, List.append_nil]
theorem stmts_le (d : Nat) (ls : List Tr.S) (j : Nat) : (stmts d (ls.take j)).length ≤ (stmts d ls).length := by
 have h : stmts d ls = stmts d (ls.take j) ++ stmts d (ls.drop j) := by rw [← stmts_app, List.take_append_drop]
 rw [h, List.length_append]; omega
end Sy
set_option maxRecDepth 100000 in
set_option maxHeartbeats 8000000 in
theorem stmtsIn_any {w0 : World} {d : Nat} (hC : StmtC w0 d) (ls : List Tr.S) (p : Option Addr) (N c lb pb B b : Nat) (l : List UInt8) (deep : Nat) (w : World) (hd : Tr.S.deep.deeps ls ≤ d) (hv : Tr.validSs ls = true) (hN : ls.length = N) (hS : SlS w0 (.slice p N c) ls) (hI : PrIn w0 B b l deep w)
 (hdd : deep + Tr.S.deep.deeps ls ≤ 1000000) (hlen : l.length + (Sy.stmts deep ls).length ≤ 140737488355328)
 (hlb : w.heap[lb]? = some (.cells #[.slice p N c] 62 (0, 0))) (hpb : w.heap[pb]? = some (.cells #[.pointer (some ⟨b, 0, none⟩)] 81 (0, 0))) (hpbb : pb ≠ b) :
 Calls Tryz.prog 147 #[.pointer (some ⟨lb, 0, none⟩), .pointer (some ⟨pb, 0, none⟩)] w (PrPost B b l (Sy.stmts deep ls) deep w) := by
 rw [Tr.validSs_all, List.all_eq_true] at hv
 have cl := cell_of_blkP hlb (j := 0) (u := .slice p N c) rfl
 have hn6 : N ≤ 9223372036854775807 := by
  have := hS.len
  rw [hN] at this
  unfold maxLen at this
  exact this
 have HI := Lib.hid hI
 have HS := Lib.hid hS
 have HN := Lib.hid hN
 have HD := Lib.hid hd
 have HV := Lib.hid hv
 have HC := Lib.hid hC
 have HL := Lib.hid hlen
 have HP := Lib.hid hpb
 have HDD := Lib.hid hdd
 clear hI hS hN hd hv hC hlen hpb hlb hdd
 go_enter Tryz.func147, Tryz.ntmps147
 go_wp2_with fail
 clear cl
 go_loopg [3, 6] N (fun g s3 s6 wr => ∃ j : Nat, s6 = .int .i64 j ∧ j ≤ N ∧ g = N - j ∧ Hid (PrIn w0 B b (l ++ Sy.stmts deep (ls.take j)) deep wr) ∧ Hid (Pk B b w wr))
 case atStart => exact ⟨0, rfl, Nat.zero_le _, rfl, by show PrIn _ _ _ _ _ _; rw [List.take_zero, Sy.stmts, List.append_nil]; exact HI.out, Pk.refl _ _ _⟩
 case round =>
  obtain ⟨j, rfl, hj, rfl, HST, HK⟩ := hrel
  by_cases hlt : j < N
  ·obtain ⟨s, hs⟩ : ∃ s, ls[j]? = some s := ⟨_, List.getElem?_eq_getElem (by rw [HN.out]; exact hlt)⟩
   obtain ⟨b', o', vx, vy, vz, rfl, _, hc, hbd, hsx, hsy, hsz⟩ := HS.out.get hs
   obtain ⟨px, cx, rfl, _⟩ := hsx.form
   obtain ⟨py, cy, rfl, _⟩ := hsy.form
   obtain ⟨pz, cz, rfl, _⟩ := hsz.form
   obtain ⟨XN, hXN⟩ : ∃ q, s.exprs.length = q := ⟨_, rfl⟩
   obtain ⟨YN, hYN⟩ : ∃ q, s.body.length = q := ⟨_, rfl⟩
   obtain ⟨ZN, hZN⟩ : ∃ q, s.els.length = q := ⟨_, rfl⟩
   rw [hXN] at hsx hc
   rw [hYN] at hsy hc
   rw [hZN] at hsz hc
   obtain ⟨x0, x1, x2, x3, x4⟩ := hc.keep HST.out.base
   have hds := Tr.S.deeps_get ls j s hs
   have htk := Sy.stmts_take deep hs
   have hle := Sy.stmts_le deep ls (j + 1)
   rw [htk, List.length_append] at hle
   have hlt2 := HST.out.lt
   have hi4 := HST.out.box (.cells #[.int .i64 s.kind, .string s.name, .slice px XN cx, .slice py YN cy, .slice pz ZN cz] 94)
   have hk4 := HK.out.trans (HST.out.pk (.cells #[.int .i64 s.kind, .string s.name, .slice px XN cx, .slice py YN cy, .slice pz ZN cz] 94))
   have hb4 := (MapKept.heap_alloc wr (.cells #[.int .i64 s.kind, .string s.name, .slice px XN cx, .slice py YN cy, .slice pz ZN cz] 94)).1
   obtain ⟨w4, hw4⟩ : ∃ q, q = wr.alloc (.cells #[.int .i64 s.kind, .string s.name, .slice px XN cx, .slice py YN cy, .slice pz ZN cz] 94) := ⟨_, rfl⟩
   rw [← hw4] at hi4 hk4 hb4
   have hcall := HC.out s px py pz XN cx YN cy ZN cz B b _ deep w4 (Nat.le_trans hds HD.out) (HV.out s (List.mem_of_getElem? hs)) hXN hYN hZN hsx hsy hsz hi4 (by have := HDD.out; omega) (by have := HL.out; rw [List.length_append]; omega)
   unfold stmtV at hcall
   have zp := cell_of_blkP (hk4.box HP.out hpbb (by decide)) (j := 0) (u := .pointer (some ⟨b, 0, none⟩)) rfl
   rw [hw4] at zp
   have HCALL := Lib.hid hcall
   have HI4 := Lib.hid hi4
   have HK4 := Lib.hid hk4
   have HW4 := Lib.hid hw4
   have HTK := Lib.hid htk
   have b3 : (j : Int) < (N : Int) := by omega
   have hl0 := cell_lt' x0
   clear hs hc hbd hsx hsy hsz hXN hYN hZN hds htk hle hi4 hk4 hb4 hw4 hcall
   go_wp2_with fail
   rw [← HW4.out]
   refine HCALL.out.mono ?_
   rintro e' w5 ⟨rfl, hs5, hk5⟩
   have HI5 := Lib.hid (HI4.out.next hs5 hk5)
   have HK5 := Lib.hid (HK4.out.trans hk5)
   clear hs5 hk5 x0 x1 x2 x3 x4 zp hl0 HW4
   go_wp2_with fail
   go_roundg (N - (j + 1))
   case measure => omega
   case rel =>
    refine ⟨j + 1, by go_num, by omega, rfl, ?_, HK5⟩
    have h1 := HI5.out
    rw [HTK.out]
    rw [List.append_assoc] at h1
    exact h1
  ·obtain rfl : j = N := by omega
   have hfull : ls.take j = ls := List.take_of_length_le (by rw [HN.out]; exact Nat.le_refl _)
   rw [hfull] at HST
   clear hfull
   go_wp2_with fail
   go_end0
   exact ⟨rfl, HST.out.st, HK.out⟩
set_option maxRecDepth 100000 in
set_option maxHeartbeats 4000000 in
theorem stmts_of {w0 : World} {d : Nat} (hC : StmtC w0 d) : StmtsC w0 d := by
 intro ls p N c B b l deep w hd hv hN hS hI hdd hlen
 have hlt := hI.lt
 obtain ⟨w1, hw1⟩ : ∃ q, q = w.alloc (.cells #[.pointer (some ⟨b, 0, none⟩)] 81) := ⟨_, rfl⟩
 obtain ⟨w2, hw2⟩ : ∃ q, q = w1.alloc (.cells #[.slice p N c] 62) := ⟨_, rfl⟩
 have hs1 : w1.heap.size = w.heap.size + 1 := by rw [hw1]; exact World.size_alloc _ _
 have hc1 : w1.heap[w.heap.size]? = some (.cells #[.pointer (some ⟨b, 0, none⟩)] 81 (0, 0)) := by rw [hw1]; exact (MapKept.heap_alloc w _).1
 have hc2 : w2.heap[w1.heap.size]? = some (.cells #[.slice p N c] 62 (0, 0)) := by rw [hw2]; exact (MapKept.heap_alloc w1 _).1
 have hi2 : PrIn w0 B b l deep w2 := by rw [hw2, hw1]; exact (hI.box _).box _
 have hk2 : Pk B b w w2 := by rw [hw2, hw1]; exact (hI.pk _).trans ((hI.box _).pk _)
 have hc1' : w2.heap[w.heap.size]? = some (.cells #[.pointer (some ⟨b, 0, none⟩)] 81 (0, 0)) := by
  have h1 := below_box w1 (.cells #[.slice p N c] 62)
  rw [← hw2] at h1
  exact (h1.block _ (by omega)).trans hc1
 rw [hs1] at hc2
 have KB := Lib.hid (block_any hi2 147 #[.pointer (some ⟨w.heap.size + 1, 0, none⟩), .pointer (some ⟨w.heap.size, 0, none⟩)] (Sy.stmts (deep + 1) ls) (by omega) (enters_of Tryz.func147 (by kernel_rfl) rfl) (fun V hk hi =>
  stmtsIn_any hC ls p N c (w.heap.size + 1) w.heap.size B b l (deep + 1) V hd hv hN hS hi hdd hlen (hk.box hc2 (by omega) (by decide)) (hk.box hc1' (by omega) (by decide)) (by omega)))
 have HW2 : Hid (w2 = (w.alloc (.cells #[.pointer (some ⟨b, 0, none⟩)] 81)).alloc (.cells #[.slice p N c] 62)) := by show _ = _; rw [hw2, hw1]
 have HK2 := Lib.hid hk2
 clear hI hd hv hN hS hdd hlen hC hlt hw1 hw2 hs1 hc1 hc2 hi2 hk2 hc1'
 go_enter Tryz.func96, Tryz.ntmps96
 go_wp2_with fail
 rw [← HW2.out]
 refine KB.out.mono ?_
 rintro e' w4 ⟨rfl, hs, hk⟩
 have HS4 := Lib.hid hs
 have HK4 := Lib.hid (HK2.out.trans hk)
 clear hs hk
 go_wp2_with fail
 go_end0
 exact ⟨rfl, HS4.out, HK4.out⟩
end Go.Proofs.YtdckddkalgnlpaaGreatDoor
