/-
  Several texts in one: SyFew, TreeOpen, PbVEnv.
-/
import Derived.Test.YtdckddkalgnlpaaGreatDoorV3
import Derived.Test.YtdckddkalgnlpaaGreatDoorV23
import Derived.Test.YtdckddkalgnlpaaGreatDoorV31
import Derived.Test.YtdckddkalgnlpaaGreatDoorV1
import Derived.Test.YtdckddkalgnlpaaGreatDoorV24
import Derived.Lib.LaidTab
import Derived.Test.YtdckddkalgnlpaaGreatDoorCards
import Derived.ProofKit
import Derived.OpenShut
import Derived.SliceStrings
import Derived.LaidLaws
namespace Go.Proofs.YtdckddkalgnlpaaGreatDoor
namespace Sy
open Tr
mutual
def i64E : E → Prop
 | .mk _ _ i _ _ l => I64 i ∧ i64Es l
def i64Es : List E → Prop
 | [] => True
 | e :: r => i64E e ∧ i64Es r
end
mutual
def i64S : S → Prop
 | .mk _ _ x b l => i64Es x ∧ i64Ss b ∧ i64Ss l
def i64Ss : List S → Prop
 | [] => True
 | e :: r => i64S e ∧ i64Ss r
end
def i64P (cs : List C) : Prop := ∀ c ∈ cs, ∀ m ∈ c.methods, i64Ss m.body
theorem i64E_eq (e : E) : i64E e ↔ I64 e.int ∧ i64Es e.args := by cases e; rw [i64E]; exact Iff.rfl
theorem i64S_eq (e : S) : i64S e ↔ i64Es e.exprs ∧ i64Ss e.body ∧ i64Ss e.els := by cases e; rw [i64S]; exact Iff.rfl
theorem i64Es_of : ∀ l : List E, (∀ e ∈ l, i64E e) → i64Es l
 | [], _ => by rw [i64Es]; trivial
 | e :: r, h => by rw [i64Es]; exact ⟨h e (by simp), i64Es_of r fun x hx => h x (by simp [hx])⟩
theorem i64Ss_of : ∀ l : List S, (∀ e ∈ l, i64S e) → i64Ss l
 | [], _ => by rw [i64Ss]; trivial
 | e :: r, h => by rw [i64Ss]; exact ⟨h e (by simp), i64Ss_of r fun x hx => h x (by simp [hx])⟩
end Sy
theorem SlE.i64 {w : World} {v : Value} {l : List Tr.E} (h : SlE w v l) : Sy.i64Es l := by
 induction h with
 | nil p c => rw [Sy.i64Es]; trivial
 | row b o c l A hn hm hc ha ih =>
   refine Sy.i64Es_of l fun e he => ?_
   obtain ⟨j, hj⟩ := List.getElem?_of_mem he
   rw [Sy.i64E_eq]
   exact ⟨(hc j e hj).2.int, ih j e hj⟩
theorem SlS.i64 {w : World} {v : Value} {l : List Tr.S} (h : SlS w v l) : Sy.i64Ss l := by
 induction h with
 | nil p c => rw [Sy.i64Ss]; trivial
 | row b o c l X Y Z hn hm hc hx hy hz ih1 ih2 =>
   refine Sy.i64Ss_of l fun e he => ?_
   obtain ⟨j, hj⟩ := List.getElem?_of_mem he
   rw [Sy.i64S_eq]
   exact ⟨(hx j e hj).i64, ih1 j e hj, ih2 j e hj⟩
theorem SlC.i64 {w : World} {v : Value} {l : List Tr.C} (h : SlC w v l) : Sy.i64P l := by
 intro c hc m hm
 obtain ⟨p, k, _, _, _, hx⟩ := h
 obtain ⟨j, hj⟩ := List.getElem?_of_mem hc
 obtain ⟨_, b, o, x, y, _, _, _, _, h4⟩ := hx j c hj
 obtain ⟨p2, k2, _, _, _, hx2⟩ := h4
 obtain ⟨i, hi⟩ := List.getElem?_of_mem hm
 obtain ⟨_, b, o, x, y, _, _, _, _, h5⟩ := hx2 i m hi
 exact h5.i64
namespace Sy
open Tr
def tl (ts : List (Nat × Bytes)) : Nat := (ts.map fun t => t.2.length + 4).sum
theorem tl_nil : tl [] = 0 := rfl
theorem tl_cons (t : Nat × Bytes) (r : List (Nat × Bytes)) : tl (t :: r) = t.2.length + 4 + tl r := by simp [tl]
theorem par_len (r : Nat) (x : Nat × Bytes) : (par r x).length ≤ x.2.length + 2 := by
 unfold par
 split
 ·simp only [List.length_append, List.length_cons, List.length_nil]; omega
 ·omega
theorem commas_len : ∀ ts : List (Nat × Bytes), (commas (ts.map Prod.snd)).length ≤ tl ts
 | [] => by simp [commas]
 | [t] => by rw [tl_cons]; show t.2.length ≤ _; omega
 | t :: u :: r => by
   have h := commas_len (u :: r)
   rw [tl_cons]
   show (t.2 ++ [44, 32] ++ commas (u.2 :: r.map Prod.snd)).length ≤ _
   have h2 : (commas (u.2 :: r.map Prod.snd)).length ≤ tl (u :: r) := h
   simp only [List.length_append, List.length_cons, List.length_nil]
   omega
theorem head_len (ts : List (Nat × Bytes)) : (ts.headD (9, [])).2.length ≤ tl ts := by
 cases ts with
 | nil => exact Nat.zero_le _
 | cons t r => rw [tl_cons]; show t.2.length ≤ _; omega
theorem two_len (ts : List (Nat × Bytes)) : (ts.headD (9, [])).2.length + ((ts.drop 1).headD (9, [])).2.length ≤ tl ts := by
 cases ts with
 | nil => exact Nat.zero_le _
 | cons t r =>
   have := head_len r
   rw [tl_cons]
   show t.2.length + (r.headD (9, [])).2.length ≤ _
   omega
theorem more_len (ts : List (Nat × Bytes)) : (ts.headD (9, [])).2.length + (commas ((ts.drop 1).map Prod.snd)).length ≤ tl ts := by
 cases ts with
 | nil => exact Nat.zero_le _
 | cons t r =>
   have := commas_len r
   rw [tl_cons]
   show t.2.length + (commas (r.map Prod.snd)).length ≤ _
   omega
theorem tl_append (a b : List (Nat × Bytes)) : tl (a ++ b) = tl a + tl b := by simp [tl]
theorem last_len (ts : List (Nat × Bytes)) : (commas (ts.dropLast.map Prod.snd)).length + (ts.getLastD (9, [])).2.length ≤ tl ts := by
 rcases List.eq_nil_or_concat ts with rfl | ⟨r, t, rfl⟩
 ·exact Nat.zero_le _
 ·have := commas_len r
  rw [List.concat_eq_append, List.dropLast_concat, List.getLastD_concat, tl_append, tl_cons, tl_nil]
  omega
theorem ite_len {c : Prop} [Decidable c] {a b : Bytes} {n : Nat} (h1 : a.length ≤ n) (h2 : b.length ≤ n) : (if c then a else b).length ≤ n := by
 split <;> assumption
theorem sym_len (o : Int) : (sym o).length ≤ 3 := by
 unfold sym
 repeat' refine ite_len ?_ ?_
 all_goals decide
set_option maxHeartbeats 2000000 in
theorem node_len (k o i : Int) (nm : Bytes) (a : Bool) (ts : List (Nat × Bytes)) (hi : I64 i) : (node k o i nm a ts).length ≤ tl ts + nm.length + 40 := by
 have h1 := head_len ts
 have h2 := two_len ts
 have h3 := commas_len ts
 have h4 := last_len ts
 have h5 : (dec i.toNat).length ≤ 19 := dec_len 18 i.toNat (by have := hi.2; omega)
 have p8 := par_len 8 (ts.headD (9, []))
 have p7 := par_len 7 (ts.headD (9, []))
 have p3 := par_len 3 (ts.headD (9, []))
 have q7 := par_len 7 (ts.getLastD (9, []))
 have q1 := par_len (if opLevel o = 4 then 5 else opLevel o) (ts.headD (9, []))
 have q2 := par_len (opLevel o + 1) ((ts.drop 1).headD (9, []))
 have s3 := sym_len o
 unfold node
 repeat' refine ite_len ?_ ?_
 all_goals ((try simp only [List.length_append, List.length_cons, List.length_nil]); omega)
theorem leftEs_head {e : E} {r : List E} {n : Int} (h : 0 ≤ leftEs (e :: r) n) : 0 ≤ n ∧ 0 ≤ leftE e n ∧ leftEs (e :: r) n = leftEs r (leftE e n) := by
 by_cases h0 : n < 0
 ·rw [leftEs, if_pos h0] at h; omega
 ·rw [leftEs, if_neg h0] at h ⊢
  refine ⟨by omega, ?_, rfl⟩
  rcases Int.lt_or_le (leftE e n) 0 with hlt | hge
  ·rw [leftEs_neg hlt] at h; omega
  ·exact hge
mutual
theorem textE_few : ∀ (e : E) (n : Int), 0 ≤ n → 0 ≤ leftE e n → i64E e → (text e).length + 4 ≤ 100 * sizeE e ∧ (sizeE e : Int) ≤ n - leftE e n ∧ e.deep ≤ sizeE e
 | .mk k o i nm a l, n, h0, h, hi => by
   rw [i64E] at hi
   rw [leftE] at h ⊢
   by_cases h4 : 40 < nm.size
   ·rw [if_pos h4] at h; omega
   ·rw [if_neg h4] at h ⊢
    obtain ⟨b1, b2, b3⟩ := textEs_few l (n - 1) h hi.2
    have b4 := node_len k o i nm.data.toList a (texts l) hi.1
    rw [data_len] at b4
    rw [text, sizeE, E.deep]
    exact ⟨by omega, by omega, by omega⟩
theorem textEs_few : ∀ (l : List E) (n : Int), 0 ≤ leftEs l n → i64Es l → tl (texts l) ≤ 100 * sizeEs l ∧ (sizeEs l : Int) ≤ n - leftEs l n ∧ E.deep.deeps l ≤ sizeEs l
 | [], n, h, _ => by rw [texts, sizeEs, leftEs, E.deep.deeps, tl_nil]; exact ⟨by omega, by omega, by omega⟩
 | e :: r, n, h, hi => by
   obtain ⟨a1, a2, a3⟩ := leftEs_head h
   rw [a3] at h ⊢
   rw [i64Es] at hi
   obtain ⟨b1, b2, b3⟩ := textE_few e n a1 a2 hi.1
   obtain ⟨c1, c2, c3⟩ := textEs_few r _ h hi.2
   rw [texts, sizeEs, E.deep.deeps, tl_cons]
   refine ⟨?_, by omega, by omega⟩
   show (text e).length + 4 + _ ≤ _
   omega
end
theorem line_len (d : Nat) (s : Bytes) : (line d s).length = 2 * d + s.length + 1 := by
 unfold line ind
 simp only [List.length_append, List.length_replicate, List.length_cons, List.length_nil]
set_option maxHeartbeats 2000000 in
theorem simple_len (k : Int) (nm : Bytes) (ts : List (Nat × Bytes)) : (simple k nm ts).length ≤ tl ts + nm.length + 40 := by
 have h1 := head_len ts
 have h2 := two_len ts
 have h3 := more_len ts
 have p9 := par_len 9 (ts.headD (9, []))
 have p8 := par_len 8 (ts.headD (9, []))
 unfold simple
 repeat' refine ite_len ?_ ?_
 all_goals ((try simp only [List.length_append, List.length_cons, List.length_nil]); omega)
theorem stmtT_len (d : Nat) (k : Int) (nm : Bytes) (ts : List (Nat × Bytes)) (body els : Bytes) (other : Bool) : (stmtT d k nm ts body els other).length ≤ tl ts + nm.length + 6 * d + 60 + body.length + els.length := by
 have h1 := head_len ts
 have h2 := simple_len k nm ts
 unfold stmtT
 refine ite_len ?_ (ite_len ?_ ?_)
 ·cases other
  ·simp only [List.length_append, List.length_cons, List.length_nil, line_len, Bool.false_eq_true, if_false]; omega
  ·simp only [List.length_append, List.length_cons, List.length_nil, line_len, if_true]; omega
 all_goals (simp only [List.length_append, List.length_cons, List.length_nil, line_len]; omega)
theorem leftSs_head {e : S} {r : List S} {n : Int} (h : 0 ≤ leftSs (e :: r) n) : 0 ≤ n ∧ 0 ≤ leftS e n ∧ leftSs (e :: r) n = leftSs r (leftS e n) := by
 by_cases h0 : n < 0
 ·rw [leftSs, if_pos h0] at h; omega
 ·rw [leftSs, if_neg h0] at h ⊢
  refine ⟨by omega, ?_, rfl⟩
  rcases Int.lt_or_le (leftS e n) 0 with hlt | hge
  ·rw [leftSs_neg hlt] at h; omega
  ·exact hge
theorem leftS_parts {k : Int} {nm : ByteArray} {x : List E} {b l : List S} {n : Int} (h : 0 ≤ leftS (.mk k nm x b l) n) : nm.size ≤ 40 ∧ 0 ≤ leftEs x (n - 1) ∧ 0 ≤ leftSs b (leftEs x (n - 1)) ∧ 0 ≤ leftSs l (leftSs b (leftEs x (n - 1))) ∧ leftS (.mk k nm x b l) n = leftSs l (leftSs b (leftEs x (n - 1))) := by
 rw [leftS] at h ⊢
 by_cases h4 : 40 < nm.size
 ·rw [if_pos h4] at h; omega
 ·rw [if_neg h4] at h ⊢
  simp only [] at h ⊢
  by_cases a1 : 0 ≤ leftEs x (n - 1)
  ·rw [if_pos a1] at h ⊢
   by_cases a2 : 0 ≤ leftSs b (leftEs x (n - 1))
   ·rw [if_pos a2] at h ⊢
    exact ⟨by omega, a1, a2, h, rfl⟩
   ·rw [if_neg a2] at h; exact absurd h a2
  ·rw [if_neg a1, if_neg a1] at h; exact absurd h a1
mutual
theorem stmt_few : ∀ (s : S) (n : Int) (d Q : Nat), 0 ≤ leftS s n → i64S s → 6 * (d + s.deep) + 200 ≤ Q → (stmt d s).length ≤ Q * sizeS s ∧ (sizeS s : Int) ≤ n - leftS s n ∧ s.deep ≤ sizeS s
 | .mk k nm x b l, n, d, Q, h, hi, hQ => by
   rw [i64S] at hi
   rw [S.deep] at hQ ⊢
   obtain ⟨a0, a1, a2, a3, a4⟩ := leftS_parts h
   obtain ⟨b1, b2, b3⟩ := textEs_few x (n - 1) a1 hi.1
   obtain ⟨c1, c2, c3⟩ := stmts_few b _ (d + 1) Q a2 hi.2.1 (by omega)
   obtain ⟨d1, d2, d3⟩ := stmts_few l _ (d + 1) Q a3 hi.2.2 (by omega)
   have e1 := stmtT_len d k nm.data.toList (texts x) (stmts (d + 1) b) (stmts (d + 1) l) (decide (0 < l.length))
   rw [data_len] at e1
   rw [stmt, sizeS, a4]
   have f1 : 100 * sizeEs x ≤ Q * sizeEs x := Nat.mul_le_mul_right _ (by omega)
   have f2 : Q * (1 + sizeEs x + sizeSs b + sizeSs l) = Q + Q * sizeEs x + Q * sizeSs b + Q * sizeSs l := by rw [Nat.mul_add, Nat.mul_add, Nat.mul_add, Nat.mul_one]
   rw [f2]
   exact ⟨by omega, by omega, by omega⟩
theorem stmts_few : ∀ (l : List S) (n : Int) (d Q : Nat), 0 ≤ leftSs l n → i64Ss l → 6 * (d + S.deep.deeps l) + 200 ≤ Q → (stmts d l).length ≤ Q * sizeSs l ∧ (sizeSs l : Int) ≤ n - leftSs l n ∧ S.deep.deeps l ≤ sizeSs l
 | [], n, d, Q, h, _, _ => by rw [stmts, sizeSs, leftSs, S.deep.deeps]; exact ⟨by simp, by omega, by omega⟩
 | e :: r, n, d, Q, h, hi, hQ => by
   obtain ⟨a1, a2, a3⟩ := leftSs_head h
   rw [a3] at h ⊢
   rw [i64Ss] at hi
   rw [S.deep.deeps] at hQ ⊢
   obtain ⟨b1, b2, b3⟩ := stmt_few e n d Q a2 hi.1 (by omega)
   obtain ⟨c1, c2, c3⟩ := stmts_few r _ d Q h hi.2 (by omega)
   rw [stmts, sizeSs, List.length_append, Nat.mul_add]
   exact ⟨by omega, by omega, by omega⟩
end
theorem shortL_parts {l : List ByteArray} {n : Int} (h : 0 ≤ shortL l n) : (∀ s ∈ l, s.size ≤ 40) ∧ shortL l n = n - l.length := by
 unfold shortL at h ⊢
 by_cases h0 : l.any (fun s => decide (40 < s.size)) = true
 ·rw [if_pos h0] at h; omega
 ·rw [if_neg h0]
  refine ⟨fun s hs => ?_, rfl⟩
  rw [List.any_eq_true] at h0
  rcases Nat.lt_or_ge 40 s.size with h1 | h1
  ·exact absurd ⟨s, hs, by simp [h1]⟩ h0
  ·exact h1
theorem params_len : ∀ l : List ByteArray, (∀ s ∈ l, s.size ≤ 40) → (commas (l.map (·.data.toList))).length ≤ 100 * l.length
 | [], _ => by simp [commas]
 | [s], h => by
   have := h s (by simp)
   show s.data.toList.length ≤ _
   rw [data_len]; simp only [List.length_cons, List.length_nil]; omega
 | s :: t :: r, h => by
   have h1 := h s (by simp)
   have h2 := params_len (t :: r) fun x hx => h x (by simp at hx ⊢; exact .inr hx)
   have h3 : (commas (t.data.toList :: r.map fun x : ByteArray => x.data.toList)).length ≤ 100 * (t :: r).length := h2
   show (s.data.toList ++ [44, 32] ++ commas (t.data.toList :: r.map fun x : ByteArray => x.data.toList)).length ≤ _
   rw [List.length_append, List.length_append, data_len]
   simp only [List.length_cons, List.length_nil] at h3 ⊢
   omega
theorem fields_len : ∀ l : List ByteArray, (∀ s ∈ l, s.size ≤ 40) → ((l.map fieldT).flatten).length ≤ 100 * l.length
 | [], _ => by simp
 | s :: r, h => by
   have h1 := h s (by simp)
   have h2 := fields_len r fun x hx => h x (by simp [hx])
   rw [List.map_cons, List.flatten_cons, List.length_append, fieldT, line_len]
   simp only [List.length_append, List.length_cons, List.length_nil, data_len]
   omega
theorem leftM_parts {m : M} {n : Int} (h : 0 ≤ leftM m n) : m.name.size ≤ 40 ∧ (∀ s ∈ m.params, s.size ≤ 40) ∧ 0 ≤ n - 1 - m.params.length ∧ 0 ≤ leftSs m.body (n - 1 - m.params.length) ∧ leftM m n = leftSs m.body (n - 1 - m.params.length) := by
 unfold leftM at h ⊢
 by_cases h4 : 40 < m.name.size
 ·rw [if_pos h4] at h; omega
 ·rw [if_neg h4] at h ⊢
  simp only [] at h ⊢
  by_cases a1 : 0 ≤ shortL m.params (n - 1)
  ·rw [if_pos a1] at h ⊢
   obtain ⟨b1, b2⟩ := shortL_parts a1
   rw [b2] at h a1 ⊢
   exact ⟨by omega, b1, a1, h, rfl⟩
  ·rw [if_neg a1] at h; exact absurd h a1
theorem method_few (m : M) (n : Int) (Q : Nat) (hn : n ≤ 1000) (h : 0 ≤ leftM m n) (hi : i64Ss m.body) (hQ : 6212 ≤ Q) : (methodT m).length ≤ Q * sizeM m ∧ (sizeM m : Int) ≤ n - leftM m n ∧ S.deep.deeps m.body ≤ 1000 ∧ m.params.length ≤ 1000 := by
 obtain ⟨a1, a2, a3, a4, a5⟩ := leftM_parts h
 have e0 : S.deep.deeps m.body ≤ 1000 := by
  have h1 := (stmts_few m.body _ 2 (6 * (2 + S.deep.deeps m.body) + 200) a4 hi (Nat.le_refl _)).2
  omega
 obtain ⟨c1, c2, c3⟩ := stmts_few m.body _ 2 Q a4 hi (by omega)
 have e1 := params_len m.params a2
 rw [a5]
 refine ⟨?_, ?_, e0, by omega⟩
 ·unfold methodT sizeM
  simp only [List.length_append, List.length_cons, List.length_nil, line_len, data_len]
  have f1 : 100 * m.params.length ≤ Q * m.params.length := Nat.mul_le_mul_right _ (by omega)
  rw [Nat.mul_add, Nat.mul_add, Nat.mul_one]
  omega
 ·unfold sizeM
  omega
theorem methods_few : ∀ (l : List M) (n : Int) (Q : Nat), n ≤ 1000 → 0 ≤ leftMs l n → (∀ m ∈ l, i64Ss m.body) → 6212 ≤ Q → ((l.map methodT).flatten).length ≤ Q * (l.map sizeM).sum ∧ ((l.map sizeM).sum : Int) ≤ n - leftMs l n ∧ ∀ m ∈ l, S.deep.deeps m.body ≤ 1000 ∧ m.params.length ≤ 1000
 | [], n, Q, _, h, _, _ => by rw [leftMs]; exact ⟨by simp, by simp, fun m hm => absurd hm (by simp)⟩
 | m :: r, n, Q, hn, h, hi, hQ => by
   have h0 : 0 ≤ n := by
    rcases Int.lt_or_le n 0 with h0 | h0
    ·rw [leftMs, if_pos h0] at h; omega
    ·exact h0
   rw [leftMs_cons h0] at h ⊢
   have h1 : 0 ≤ leftM m n := by
    rcases Int.lt_or_le (leftM m n) 0 with hlt | hge
    ·rw [leftMs_neg hlt] at h; omega
    ·exact hge
   obtain ⟨a1, a2, a3, a4⟩ := method_few m n Q hn h1 (hi m (by simp)) hQ
   have h5 := leftM_le m n h0
   obtain ⟨b1, b2, b3⟩ := methods_few r _ Q (by omega) h (fun x hx => hi x (by simp [hx])) hQ
   rw [List.map_cons, List.flatten_cons, List.length_append, List.map_cons, List.sum_cons, Nat.mul_add]
   refine ⟨by omega, by omega, fun x hx => ?_⟩
   rcases List.mem_cons.1 hx with rfl | hx
   ·exact ⟨a3, a4⟩
   ·exact b3 x hx
theorem class_few (c : C) (n : Int) (Q : Nat) (hn : n ≤ 1000) (h : 0 ≤ leftC c n) (hi : ∀ m ∈ c.methods, i64Ss m.body) (hQ : 6212 ≤ Q) : (classT c).length ≤ Q * sizeC c ∧ (sizeC c : Int) ≤ n - leftC c n ∧ ∀ m ∈ c.methods, S.deep.deeps m.body ≤ 1000 ∧ m.params.length ≤ 1000 := by
 unfold leftC at h ⊢
 by_cases h4 : 40 < c.name.size
 ·rw [if_pos h4] at h; omega
 ·rw [if_neg h4] at h ⊢
  have a1 : 0 ≤ shortL c.fields (n - 1) := by
   have := leftMs_le c.methods (shortL c.fields (n - 1))
   omega
  obtain ⟨b1, b2⟩ := shortL_parts a1
  rw [b2] at h a1 ⊢
  obtain ⟨c1, c2, c3⟩ := methods_few c.methods _ Q (by omega) h hi hQ
  have e1 := fields_len c.fields b1
  refine ⟨?_, ?_, c3⟩
  ·unfold classT sizeC
   have e2 : (if c.actor then [97, 99, 116, 111, 114, 32] else [114, 101, 99, 111, 114, 100, 32] : Bytes).length ≤ 7 := by cases c.actor <;> decide
   rw [List.length_append, List.length_append, List.length_append, line_len, line_len, List.length_append, List.length_append, data_len]
   simp only [List.length_cons, List.length_nil]
   have f1 : 100 * c.fields.length ≤ Q * c.fields.length := Nat.mul_le_mul_right _ (by omega)
   rw [Nat.mul_add, Nat.mul_add, Nat.mul_one]
   omega
  ·unfold sizeC
   omega
theorem prog_few : ∀ (l : List C) (n : Int) (Q : Nat), n ≤ 1000 → 0 ≤ leftCs l n → i64P l → 6212 ≤ Q → (progT l).length ≤ Q * sizeP l ∧ (sizeP l : Int) ≤ n - leftCs l n ∧ ∀ c ∈ l, ∀ m ∈ c.methods, S.deep.deeps m.body ≤ 1000 ∧ m.params.length ≤ 1000
 | [], n, Q, _, h, _, _ => by rw [leftCs]; exact ⟨by simp [progT], by simp [sizeP], fun m hm => absurd hm (by simp)⟩
 | c :: r, n, Q, hn, h, hi, hQ => by
   have h0 : 0 ≤ n := by
    rcases Int.lt_or_le n 0 with h0 | h0
    ·rw [leftCs, if_pos h0] at h; omega
    ·exact h0
   rw [leftCs_cons h0] at h ⊢
   have h1 : 0 ≤ leftC c n := by
    rcases Int.lt_or_le (leftC c n) 0 with hlt | hge
    ·rw [leftCs_neg hlt] at h; omega
    ·exact hge
   obtain ⟨a1, a2, a3⟩ := class_few c n Q hn h1 (hi c (by simp)) hQ
   have h5 := leftC_le c n h0
   obtain ⟨b1, b2, b3⟩ := prog_few r _ Q (by omega) h (fun x hx => hi x (by simp [hx])) hQ
   unfold progT sizeP at b1 ⊢
   unfold sizeP at b2
   rw [List.map_cons, List.flatten_cons, List.length_append, List.map_cons, List.sum_cons, Nat.mul_add]
   refine ⟨by omega, by omega, fun x hx => ?_⟩
   rcases List.mem_cons.1 hx with rfl | hx
   ·exact a3
   ·exact b3 x hx
theorem expr_small {e : E} {n : Int} (h : fewE e n = true) (h0 : 0 ≤ n) (hn : n ≤ 1000) (hi : i64E e) : e.deep ≤ 1000 ∧ sizeE e ≤ 1000 ∧ (text e).length ≤ 100000 := by
 have h1 : 0 ≤ leftE e n := of_decide_eq_true h
 obtain ⟨a1, a2, a3⟩ := textE_few e n h0 h1 hi
 exact ⟨by omega, by omega, by omega⟩
theorem prog_small {cs : List C} {n : Int} (h : fewP cs n = true) (hn : n ≤ 1000) (hi : i64P cs) : (∀ c ∈ cs, ∀ m ∈ c.methods, S.deep.deeps m.body ≤ 1000 ∧ m.params.length ≤ 1000) ∧ sizeP cs ≤ 1000 ∧ (progT cs).length ≤ 7000000 := by
 have h1 : 0 ≤ leftCs cs n := of_decide_eq_true h
 obtain ⟨a1, a2, a3⟩ := prog_few cs n 7000 hn h1 hi (by omega)
 exact ⟨a3, by omega, by omega⟩
end Sy
end Go.Proofs.YtdckddkalgnlpaaGreatDoor
namespace Go.Proofs.YtdckddkalgnlpaaGreatDoor
open Go.RowKit Go.Deep Go.ChangeShapes
section
variable {H : Type} {enc : TypeId × Value → H} {P : Program} {w : World} {base : Nat} {spare : Nat → Bool} {held : Bool}
theorem field_of {fs : Array Field} {ts : List TypeId} (h : fs.toList.map (·.type) = ts) {j : Nat} {t : TypeId} (hj : ts[j]? = some t) : ∃ f, fs[j]? = some f ∧ f.type = t := by
 rw [← h, List.getElem?_map] at hj
 obtain ⟨f, hf, e⟩ := Option.map_eq_some_iff.1 hj
 exact ⟨f, by rw [← Array.getElem?_toList]; exact hf, e⟩
variable {tE tsE tInt tI64 tStr tBool : TypeId}
variable {tS tsS : TypeId}
variable {tP tC tsC tM tsM tsStr : TypeId}
end
end Go.Proofs.YtdckddkalgnlpaaGreatDoor
namespace Go.Proofs.YtdckddkalgnlpaaGreatDoor
open Go.RowKit Go.ChangeShapes Go.WideShapes
theorem laidVars_at {P : Program} {W : World} : ∀ {l : List (String × DataW Unit)} {ps : List MemPlace}, DataW.LaidVars P W l ps → ∀ {n : String} {d : DataW Unit}, (n, d) ∈ l →
 ∃ g t cs fuel p, P.globalNamed n = some g ∧ (P.globals[g]?).map (·.type) = some t ∧ W.var? P n = some cs ∧ DataW.trod (fun _ => ()) P W 0 (fun _ => true) false fuel t cs.toList = some (d, p)
 | [], _, _, _, _, hm => by simp at hm
 | (n', d') :: r, ps, h, n, d, hm => by
   obtain ⟨g, t, cs, fuel, p, q, h1, h2, h3, h4, h5, _⟩ := h
   rcases List.mem_cons.1 hm with e | hm
   ·cases e
    exact ⟨g, t, cs, fuel, p, h1, h2, h3, h4⟩
   ·exact laidVars_at h5 hm
theorem laid_at {P : Program} {W : World} {l : List (String × DataW Unit)} (h : laidMet P l W) {n : String} {d : DataW Unit} (hm : (n, d) ∈ l) :
 ∃ g t cs fuel p, P.globalNamed n = some g ∧ (P.globals[g]?).map (·.type) = some t ∧ W.var? P n = some cs ∧ DataW.trod (fun _ => ()) P W 0 (fun _ => true) false fuel t cs.toList = some (d, p) := by
 obtain ⟨ps, h1, _⟩ := h
 exact laidVars_at h1 hm
theorem strings_at {W : World} {l : List (String × DataW Unit)} (h : laidMet Tryz.prog l W) {n : String} {g : Nat} (ls : List (List UInt8)) (hne : ls ≠ [])
 (hm : (n, DataW.slice (ls.map fun x => .lit (.string x)) []) ∈ l) (hg : Tryz.prog.globalNamed n = some g) (hty : (Tryz.prog.globals[g]?).map (·.type) = some 46) (hcs : Tryz.prog.cellsOf 9 = 1) :
 ∃ b o c, W.cell? ⟨g, 0, none⟩ = some (.slice (some ⟨b, o, none⟩) ls.length c) ∧ ∀ j, j < ls.length → W.cell? ⟨b, o + j, none⟩ = some (.string ⟨(ls.getD j []).toArray⟩) := by
 obtain ⟨g', t, cs, fuel, p, h1, h2, h3, h4⟩ := laid_at h hm
 obtain rfl : g = g' := Option.some.inj (hg.symm.trans h1)
 obtain rfl : t = 46 := (Option.some.inj (hty.symm.trans h2)).symm
 rcases open_strings Tryz.underlying46 Tryz.underlying9 hcs h4 with ⟨_, hx⟩ | ⟨a, len, cap, ss, hcs2, _, hl, hm2, hz, hx, hcell, _⟩
 ·cases hx
 ·have hc0 := World.var?_cell hg h3 0
  have hcs3 : cs[0]? = some (.slice (some a) len cap) := by
   rw [← Array.getElem?_toList, hcs2]; rfl
  rw [hcs3] at hc0
  simp only [Prod.mk.injEq, DataW.slice.injEq] at hx
  obtain ⟨⟨e1, e2⟩, _⟩ := hx
  have hss : (ss.take len).map (fun s => s.data.toList) = ls := by
   have h5 : ∀ (zs : List ByteArray) (ys : List (List UInt8)), ys.map (fun x => (DataW.lit (.string x) : DataW Unit)) = strs zs → zs.map (fun s => s.data.toList) = ys := by
    intro zs
    induction zs with
    | nil => intro ys hy; cases ys with | nil => rfl | cons _ _ => simp [strs] at hy
    | cons z zs ih =>
      intro ys hy
      cases ys with
      | nil => simp [strs] at hy
      | cons y ys =>
        simp only [strs, List.map_cons, List.cons.injEq, DataW.lit.injEq, Lit.string.injEq] at hy ⊢
        exact ⟨hy.1.symm, ih ys hy.2⟩
   exact h5 _ _ e1
  have hslen : ss.length = cap := by simpa using hz
  have hlen : len = ls.length := by
   rw [← hss, List.length_map, List.length_take, hslen]; omega
  have hpos : 0 < ss.length := by
   have : 0 < ls.length := List.length_pos_iff.2 hne
   omega
  obtain ⟨b, o, sp⟩ := a
  have hsp : sp = none := by
   have h6 := hcell 0 hpos
   unfold World.cell? at h6
   cases sp with
   | none => rfl
   | some k =>
     exfalso
     have hsome : ((⟨b, o, some k⟩ : Addr).add 0).spot.isSome = true := by unfold Addr.add; split <;> simp_all
     rw [hsome] at h6
     split at h6
     ·simp at h6
     ·cases h6
  subst hsp
  refine ⟨b, o, cap, by rw [hc0, hlen], fun j hj => ?_⟩
  have h6 := hcell j (by omega)
  have hadd : (⟨b, o, none⟩ : Addr).add j = ⟨b, o + j, none⟩ := by unfold Addr.add; split <;> simp_all
  rw [hadd] at h6
  rw [h6]
  have h7 : (ls.getD j []) = (ss.getD j ByteArray.empty).data.toList := by
   have hj2 : j < ss.length := by omega
   rw [← hss, List.getD_eq_getElem?_getD, List.getElem?_map, List.getElem?_take, if_pos (by omega), List.getElem?_eq_getElem hj2, List.getD_eq_getElem?_getD, List.getElem?_eq_getElem hj2]
   rfl
  rw [h7]
theorem iface_at {W : World} {l : List (String × DataW Unit)} (h : laidMet Tryz.prog l W) {n : String} {g : Nat} {nm : String} {d : DataW Unit} {ti : TypeId} {ms : Array (String × TypeId)}
 (hm : (n, DataW.iface nm d) ∈ l) (hg : Tryz.prog.globalNamed n = some g) (hty : (Tryz.prog.globals[g]?).map (·.type) = some ti) (hi : Tryz.prog.underlying ti = some (.interface ms)) :
 ∃ te pe, W.cell? ⟨g, 0, none⟩ = some (.iface te pe) := by
 obtain ⟨g', t, cs, fuel, p, h1, h2, h3, h4⟩ := laid_at h hm
 obtain rfl : g = g' := Option.some.inj (hg.symm.trans h1)
 obtain rfl : t = ti := (Option.some.inj (hty.symm.trans h2)).symm
 obtain ⟨_, u, v, hcs2, _⟩ := iface_of_trod hi h4
 have hc0 := World.var?_cell hg h3 0
 have hcs3 : cs[0]? = some (.iface u v) := by
  rw [← Array.getElem?_toList, hcs2]; rfl
 exact ⟨u, v, by rw [hc0, hcs3]⟩
section
variable {H : Type} {enc : TypeId × Value → H} {P : Program} {w : World} {base : Nat} {spare : Nat → Bool} {held : Bool}
theorem arr_at {t e : TypeId} {n c fuel : Nat} {cs : List Value} {ds : List (DataW H)} {p : List MemPlace} (ht : P.underlying t = some (.array n e)) (hce : P.cellsOf e = c) (h : DataW.trod enc P w base spare held fuel t cs = some (.agg ds, p)) {i : Nat} {d : DataW H} (hd : ds[i]? = some d) :
 ∃ m q, DataW.trod enc P w base spare held m e ((cs.drop (i * c)).take c) = some (d, q) := by
 obtain ⟨xs, m, _, hx, _, hl, hf⟩ := DataW.trod_array ht h
 simp only [Prod.mk.injEq, DataW.agg.injEq] at hx
 obtain ⟨rfl, _⟩ := hx
 rw [List.getElem?_map] at hd
 obtain ⟨y, hy, rfl⟩ := Option.map_eq_some_iff.1 hd
 have hi : i < n := by have := (List.getElem?_eq_some_iff.1 hy).1; omega
 have h1 := hf i hi
 rw [hce, hy] at h1
 exact ⟨m, y.2, h1⟩
theorem struct_at {t : TypeId} {fs : Array Field} {fuel : Nat} {cs : List Value} {ds : List (DataW H)} {p : List MemPlace} (ht : P.underlying t = some (.struct fs)) (hone : Go.Deep.oneCellFields P fs = true) (hC : P.cellsOf t = fs.size)
 (h : DataW.trod enc P w base spare held fuel t cs = some (.agg ds, p)) {j : Nat} {f : Field} {d : DataW H} (hf0 : fs[j]? = some f) (hd : ds[j]? = some d) : ∃ v m q, cs[j]? = some v ∧ DataW.trod enc P w base spare held m f.type [v] = some (d, q) := by
 obtain ⟨xs, n, _, hx, hl, hxl, hf⟩ := DataW.trod_struct ht h
 simp only [Prod.mk.injEq, DataW.agg.injEq] at hx
 obtain ⟨rfl, _⟩ := hx
 rw [List.getElem?_map] at hd
 obtain ⟨y, hy, rfl⟩ := Option.map_eq_some_iff.1 hd
 obtain ⟨ho, hk⟩ := Go.Deep.hone_of hone j f hf0
 have hjl : j < fs.size := (Array.getElem?_eq_some_iff.1 hf0).1
 have h1 := hf j f hf0
 have hcl : j < cs.length := by rw [hl, hC]; exact hjl
 rw [ho, hk, Go.Deep.take1_drop cs j undef hcl, hy] at h1
 exact ⟨cs.getD j undef, n, y.2, by simp [List.getD, List.getElem?_eq_getElem hcl], h1⟩
end
theorem var_at {W : World} {l : List (String × DataW Unit)} (h : laidMet Tryz.prog l W) {nm : String} {ds : List (DataW Unit)} {g : Nat} {t e : TypeId} {n c : Nat} (hm : (nm, DataW.agg ds) ∈ l) (hg : Tryz.prog.globalNamed nm = some g) (hty : (Tryz.prog.globals[g]?).map (·.type) = some t) (ht : Tryz.prog.underlying t = some (.array n e)) (hce : Tryz.prog.cellsOf e = c) {i : Nat} {d : DataW Unit} (hd : ds[i]? = some d) :
 ∃ (cs : Array Value) (m : Nat) (q : List MemPlace), (∀ j, W.cell? ⟨g, j, none⟩ = cs[j]?) ∧ DataW.trod (fun _ => ()) Tryz.prog W 0 (fun _ => true) false m e ((cs.toList.drop (i * c)).take c) = some (d, q) := by
 obtain ⟨g', t', cs, fuel, p, h1, h2, h3, h4⟩ := laid_at h hm
 obtain rfl : g = g' := Option.some.inj (hg.symm.trans h1)
 obtain rfl : t' = t := (Option.some.inj (hty.symm.trans h2)).symm
 obtain ⟨m, q, h5⟩ := arr_at ht hce h4 hd
 exact ⟨cs, m, q, fun j => World.var?_cell hg h3 j, h5⟩
noncomputable def formFs : Array Field := match Tryz.prog.underlying 133 with | some (.struct fs) => fs | _ => #[]
theorem formSt : Tryz.prog.underlying 133 = some (.struct formFs) := by kernel_rfl
theorem formOne : Go.Deep.oneCellFields Tryz.prog formFs = true := by kernel_rfl
theorem formCellsOf : Tryz.prog.cellsOf 133 = 5 := by kernel_rfl
theorem formTs : formFs.toList.map (·.type) = [3, 3, 4, 4, 4] := by kernel_rfl
def formD : Nat → List (DataW Unit)
 | 0 => [.lit (.int .i64 1), .lit (.int .i64 1), .lit (.bool true), .lit (.bool false), .lit (.bool false)]
 | 1 => [.lit (.int .i64 1), .lit (.int .i64 1), .lit (.bool true), .lit (.bool false), .lit (.bool false)]
 | 2 => [.lit (.int .i64 2), .lit (.int .i64 2), .lit (.bool true), .lit (.bool false), .lit (.bool false)]
 | 3 => [.lit (.int .i64 1), .lit (.int .i64 1), .lit (.bool false), .lit (.bool true), .lit (.bool true)]
 | 4 => [.lit (.int .i64 1), .lit (.int .i64 1), .lit (.bool false), .lit (.bool true), .lit (.bool false)]
 | 5 => [.lit (.int .i64 1), .lit (.int .i64 4611686018427387904), .lit (.bool true), .lit (.bool false), .lit (.bool false)]
 | 6 => [.lit (.int .i64 1), .lit (.int .i64 1), .lit (.bool false), .lit (.bool false), .lit (.bool false)]
 | 7 => [.lit (.int .i64 2), .lit (.int .i64 2), .lit (.bool false), .lit (.bool false), .lit (.bool false)]
 | 8 => [.lit (.int .i64 2), .lit (.int .i64 2), .lit (.bool true), .lit (.bool false), .lit (.bool false)]
 | 9 => [.lit (.int .i64 0), .lit (.int .i64 0), .lit (.bool false), .lit (.bool false), .lit (.bool false)]
 | _ => []
def formsD : List (DataW Unit) := [.agg [.lit (.int .i64 1), .lit (.int .i64 1), .lit (.bool true), .lit (.bool false), .lit (.bool false)], .agg [.lit (.int .i64 1), .lit (.int .i64 1), .lit (.bool true), .lit (.bool false), .lit (.bool false)], .agg [.lit (.int .i64 2), .lit (.int .i64 2), .lit (.bool true), .lit (.bool false), .lit (.bool false)], .agg [.lit (.int .i64 1), .lit (.int .i64 1), .lit (.bool false), .lit (.bool true), .lit (.bool true)], .agg [.lit (.int .i64 1), .lit (.int .i64 1), .lit (.bool false), .lit (.bool true), .lit (.bool false)], .agg [.lit (.int .i64 1), .lit (.int .i64 4611686018427387904), .lit (.bool true), .lit (.bool false), .lit (.bool false)], .agg [.lit (.int .i64 1), .lit (.int .i64 1), .lit (.bool false), .lit (.bool false), .lit (.bool false)], .agg [.lit (.int .i64 2), .lit (.int .i64 2), .lit (.bool false), .lit (.bool false), .lit (.bool false)], .agg [.lit (.int .i64 2), .lit (.int .i64 2), .lit (.bool true), .lit (.bool false), .lit (.bool false)], .agg [.lit (.int .i64 0), .lit (.int .i64 0), .lit (.bool false), .lit (.bool false), .lit (.bool false)]]
theorem forms_at {W : World} (h : laidMetH Tryz.prog Rows.parserValidRow.laid W) (j : Nat) (u : Value) (hu : formCells[j]? = some u) : W.cell? ⟨0, j, none⟩ = some u := by
 have hl : laidMet Tryz.prog Rows.parserValidRow.laid W := h
 have hj : j < 50 := (List.getElem?_eq_some_iff.1 hu).1
 have hd : ∀ i, i < 10 → formsD[i]? = some (.agg (formD i)) := by
  intro i hi
  match i, hi with
  | 0, _ => rfl
  | 1, _ => rfl
  | 2, _ => rfl
  | 3, _ => rfl
  | 4, _ => rfl
  | 5, _ => rfl
  | 6, _ => rfl
  | 7, _ => rfl
  | 8, _ => rfl
  | 9, _ => rfl
 have hfs : formFs.size = 5 := by
  have := congrArg List.length formTs
  simpa using this
 obtain ⟨cs, m, q, hc, ht⟩ := var_at hl (g := 0) (t := 134) (e := 133) (n := 10) (c := 5) (ds := formsD) (List.mem_of_getElem? (i := 9) rfl) (by kernel_rfl) (by kernel_rfl) Tryz.underlying134 formCellsOf (hd (j / 5) (by omega))
 have key : ∀ (a b : Nat) (f : Field) (d : DataW Unit), j = a * 5 + b → b < 5 → formFs[b]? = some f → (formD a)[b]? = some d → j / 5 = a → ∃ v m q, cs[j]? = some v ∧ DataW.trod (fun _ => ()) Tryz.prog W 0 (fun _ => true) false m f.type [v] = some (d, q) := by
  intro a b f d hab hb hf hdd ha
  rw [ha] at ht
  obtain ⟨v, m, q, h1, h2⟩ := struct_at formSt formOne (by rw [formCellsOf, hfs]) ht hf hdd
  refine ⟨v, m, q, ?_, h2⟩
  rw [List.getElem?_take_of_lt hb, List.getElem?_drop, ← hab] at h1
  rw [← Array.getElem?_toList]
  exact h1
 obtain ⟨f0, g0, e0⟩ := field_of formTs (j := 0) rfl
 obtain ⟨f1, g1, e1⟩ := field_of formTs (j := 1) rfl
 obtain ⟨f2, g2, e2⟩ := field_of formTs (j := 2) rfl
 obtain ⟨f3, g3, e3⟩ := field_of formTs (j := 3) rfl
 obtain ⟨f4, g4, e4⟩ := field_of formTs (j := 4) rfl
 have geti : ∀ (a b : Nat) (f : Field) (z : Int), j = a * 5 + b → b < 5 → formFs[b]? = some f → f.type = 3 → (formD a)[b]? = some (.lit (.int .i64 z)) → j / 5 = a → W.cell? ⟨0, j, none⟩ = some (.int .i64 z) := by
  intro a b f z hab hb hf hft hdd ha
  obtain ⟨v, m, q, h1, h2⟩ := key a b f _ hab hb hf hdd ha
  rw [hft] at h2
  obtain ⟨y, hy, hz, _⟩ := DataW.trod_int Tryz.underlying3 h2
  simp only [Prod.mk.injEq, DataW.lit.injEq, Lit.int.injEq, true_and] at hz
  simp only [List.cons.injEq, and_true] at hy
  rw [hc j, h1, hy, hz.1]
 have getb : ∀ (a b : Nat) (f : Field) (z : Bool), j = a * 5 + b → b < 5 → formFs[b]? = some f → f.type = 4 → (formD a)[b]? = some (.lit (.bool z)) → j / 5 = a → W.cell? ⟨0, j, none⟩ = some (.bool z) := by
  intro a b f z hab hb hf hft hdd ha
  obtain ⟨v, m, q, h1, h2⟩ := key a b f _ hab hb hf hdd ha
  rw [hft] at h2
  obtain ⟨y, hy, hz⟩ := DataW.trod_bool Tryz.underlying4 h2
  simp only [Prod.mk.injEq, DataW.lit.injEq, Lit.bool.injEq] at hz
  simp only [List.cons.injEq, and_true] at hy
  rw [hc j, h1, hy, hz.1]
 clear ht hd key
 match j, hj with
 | 0, _ => cases hu; exact geti 0 0 f0 _ rfl (by decide) g0 e0 rfl rfl
 | 1, _ => cases hu; exact geti 0 1 f1 _ rfl (by decide) g1 e1 rfl rfl
 | 2, _ => cases hu; exact getb 0 2 f2 _ rfl (by decide) g2 e2 rfl rfl
 | 3, _ => cases hu; exact getb 0 3 f3 _ rfl (by decide) g3 e3 rfl rfl
 | 4, _ => cases hu; exact getb 0 4 f4 _ rfl (by decide) g4 e4 rfl rfl
 | 5, _ => cases hu; exact geti 1 0 f0 _ rfl (by decide) g0 e0 rfl rfl
 | 6, _ => cases hu; exact geti 1 1 f1 _ rfl (by decide) g1 e1 rfl rfl
 | 7, _ => cases hu; exact getb 1 2 f2 _ rfl (by decide) g2 e2 rfl rfl
 | 8, _ => cases hu; exact getb 1 3 f3 _ rfl (by decide) g3 e3 rfl rfl
 | 9, _ => cases hu; exact getb 1 4 f4 _ rfl (by decide) g4 e4 rfl rfl
 | 10, _ => cases hu; exact geti 2 0 f0 _ rfl (by decide) g0 e0 rfl rfl
 | 11, _ => cases hu; exact geti 2 1 f1 _ rfl (by decide) g1 e1 rfl rfl
 | 12, _ => cases hu; exact getb 2 2 f2 _ rfl (by decide) g2 e2 rfl rfl
 | 13, _ => cases hu; exact getb 2 3 f3 _ rfl (by decide) g3 e3 rfl rfl
 | 14, _ => cases hu; exact getb 2 4 f4 _ rfl (by decide) g4 e4 rfl rfl
 | 15, _ => cases hu; exact geti 3 0 f0 _ rfl (by decide) g0 e0 rfl rfl
 | 16, _ => cases hu; exact geti 3 1 f1 _ rfl (by decide) g1 e1 rfl rfl
 | 17, _ => cases hu; exact getb 3 2 f2 _ rfl (by decide) g2 e2 rfl rfl
 | 18, _ => cases hu; exact getb 3 3 f3 _ rfl (by decide) g3 e3 rfl rfl
 | 19, _ => cases hu; exact getb 3 4 f4 _ rfl (by decide) g4 e4 rfl rfl
 | 20, _ => cases hu; exact geti 4 0 f0 _ rfl (by decide) g0 e0 rfl rfl
 | 21, _ => cases hu; exact geti 4 1 f1 _ rfl (by decide) g1 e1 rfl rfl
 | 22, _ => cases hu; exact getb 4 2 f2 _ rfl (by decide) g2 e2 rfl rfl
 | 23, _ => cases hu; exact getb 4 3 f3 _ rfl (by decide) g3 e3 rfl rfl
 | 24, _ => cases hu; exact getb 4 4 f4 _ rfl (by decide) g4 e4 rfl rfl
 | 25, _ => cases hu; exact geti 5 0 f0 _ rfl (by decide) g0 e0 rfl rfl
 | 26, _ => cases hu; exact geti 5 1 f1 _ rfl (by decide) g1 e1 rfl rfl
 | 27, _ => cases hu; exact getb 5 2 f2 _ rfl (by decide) g2 e2 rfl rfl
 | 28, _ => cases hu; exact getb 5 3 f3 _ rfl (by decide) g3 e3 rfl rfl
 | 29, _ => cases hu; exact getb 5 4 f4 _ rfl (by decide) g4 e4 rfl rfl
 | 30, _ => cases hu; exact geti 6 0 f0 _ rfl (by decide) g0 e0 rfl rfl
 | 31, _ => cases hu; exact geti 6 1 f1 _ rfl (by decide) g1 e1 rfl rfl
 | 32, _ => cases hu; exact getb 6 2 f2 _ rfl (by decide) g2 e2 rfl rfl
 | 33, _ => cases hu; exact getb 6 3 f3 _ rfl (by decide) g3 e3 rfl rfl
 | 34, _ => cases hu; exact getb 6 4 f4 _ rfl (by decide) g4 e4 rfl rfl
 | 35, _ => cases hu; exact geti 7 0 f0 _ rfl (by decide) g0 e0 rfl rfl
 | 36, _ => cases hu; exact geti 7 1 f1 _ rfl (by decide) g1 e1 rfl rfl
 | 37, _ => cases hu; exact getb 7 2 f2 _ rfl (by decide) g2 e2 rfl rfl
 | 38, _ => cases hu; exact getb 7 3 f3 _ rfl (by decide) g3 e3 rfl rfl
 | 39, _ => cases hu; exact getb 7 4 f4 _ rfl (by decide) g4 e4 rfl rfl
 | 40, _ => cases hu; exact geti 8 0 f0 _ rfl (by decide) g0 e0 rfl rfl
 | 41, _ => cases hu; exact geti 8 1 f1 _ rfl (by decide) g1 e1 rfl rfl
 | 42, _ => cases hu; exact getb 8 2 f2 _ rfl (by decide) g2 e2 rfl rfl
 | 43, _ => cases hu; exact getb 8 3 f3 _ rfl (by decide) g3 e3 rfl rfl
 | 44, _ => cases hu; exact getb 8 4 f4 _ rfl (by decide) g4 e4 rfl rfl
 | 45, _ => cases hu; exact geti 9 0 f0 _ rfl (by decide) g0 e0 rfl rfl
 | 46, _ => cases hu; exact geti 9 1 f1 _ rfl (by decide) g1 e1 rfl rfl
 | 47, _ => cases hu; exact getb 9 2 f2 _ rfl (by decide) g2 e2 rfl rfl
 | 48, _ => cases hu; exact getb 9 3 f3 _ rfl (by decide) g3 e3 rfl rfl
 | 49, _ => cases hu; exact getb 9 4 f4 _ rfl (by decide) g4 e4 rfl rfl
def opsD : List (DataW Unit) := [.agg [.lit (.string [43]), .lit (.int .i64 5)], .agg [.lit (.string [45]), .lit (.int .i64 5)], .agg [.lit (.string [42]), .lit (.int .i64 6)], .agg [.lit (.string [47]), .lit (.int .i64 6)], .agg [.lit (.string [37]), .lit (.int .i64 6)], .agg [.lit (.string [61, 61]), .lit (.int .i64 4)], .agg [.lit (.string [33, 61]), .lit (.int .i64 4)], .agg [.lit (.string [60]), .lit (.int .i64 4)], .agg [.lit (.string [60, 61]), .lit (.int .i64 4)], .agg [.lit (.string [62]), .lit (.int .i64 4)], .agg [.lit (.string [62, 61]), .lit (.int .i64 4)], .agg [.lit (.string [97, 110, 100]), .lit (.int .i64 2)], .agg [.lit (.string [111, 114]), .lit (.int .i64 1)]]
noncomputable def opFs : Array Field := match Tryz.prog.underlying 160 with | some (.struct fs) => fs | _ => #[]
theorem opSt : Tryz.prog.underlying 160 = some (.struct opFs) := by kernel_rfl
theorem opOne : Go.Deep.oneCellFields Tryz.prog opFs = true := by kernel_rfl
theorem opCellsOf : Tryz.prog.cellsOf 160 = 2 := by kernel_rfl
theorem opTs : opFs.toList.map (·.type) = [9, 3] := by kernel_rfl
theorem ops_at {W : World} (h : laidMetH Tryz.prog Rows.parserValidRow.laid W) (o : Nat) (ho : o ≤ 12) : W.cell? ⟨2, o * 2, none⟩ = some (.string ⟨(Sy.sym o).toArray⟩) ∧ W.cell? ⟨2, o * 2 + 1, none⟩ = some (.int .i64 (Sy.opLevel o : Nat)) := by
 have hl : laidMet Tryz.prog Rows.parserValidRow.laid W := h
 have hd : ∀ i : Nat, i < 13 → opsD[i]? = some (.agg [.lit (.string (Sy.sym i)), .lit (.int .i64 (Sy.opLevel i : Nat))]) := by
  intro i hi
  match i, hi with
  | 0, _ => rfl
  | 1, _ => rfl
  | 2, _ => rfl
  | 3, _ => rfl
  | 4, _ => rfl
  | 5, _ => rfl
  | 6, _ => rfl
  | 7, _ => rfl
  | 8, _ => rfl
  | 9, _ => rfl
  | 10, _ => rfl
  | 11, _ => rfl
  | 12, _ => rfl
 have hfs : opFs.size = 2 := by
  have := congrArg List.length opTs
  simpa using this
 obtain ⟨cs, m, q, hc, ht⟩ := var_at hl (g := 2) (t := 161) (e := 160) (n := 13) (c := 2) (ds := opsD) (List.mem_of_getElem? (i := 8) rfl) (by kernel_rfl) (by kernel_rfl) Tryz.underlying161 opCellsOf (hd o (by omega))
 obtain ⟨f0, g0, e0⟩ := field_of opTs (j := 0) rfl
 obtain ⟨f1, g1, e1⟩ := field_of opTs (j := 1) rfl
 obtain ⟨v0, m0, q0, h0, t0⟩ := struct_at opSt opOne (by rw [opCellsOf, hfs]) ht g0 (d := .lit (.string (Sy.sym o))) rfl
 obtain ⟨v1, m1, q1, h1, t1⟩ := struct_at opSt opOne (by rw [opCellsOf, hfs]) ht g1 (d := .lit (.int .i64 (Sy.opLevel o : Nat))) rfl
 rw [List.getElem?_take_of_lt (by omega), List.getElem?_drop] at h0 h1
 rw [e0] at t0
 rw [e1] at t1
 obtain ⟨y, hy, hz, _⟩ := DataW.trod_string Tryz.underlying9 t0
 simp only [Prod.mk.injEq, DataW.lit.injEq, Lit.string.injEq] at hz
 simp only [List.cons.injEq, and_true] at hy
 obtain ⟨y1, hy1, hz1, _⟩ := DataW.trod_int Tryz.underlying3 t1
 simp only [Prod.mk.injEq, DataW.lit.injEq, Lit.int.injEq, true_and] at hz1
 simp only [List.cons.injEq, and_true] at hy1
 refine ⟨?_, ?_⟩
 ·rw [hc (o * 2), ← Array.getElem?_toList, show o * 2 = o * 2 + 0 from rfl, h0, hy, show y = ⟨(Sy.sym o).toArray⟩ from bytes_eq hz.1.symm]
 ·rw [hc (o * 2 + 1), ← Array.getElem?_toList, h1, hy1, hz1.1]
theorem pow10_at {W : World} (h : laidMetH Tryz.prog Rows.parserValidRow.laid W) : Lib.TabIs Tryz.prog W "internal/strconv.uint64pow10" .u64 Lib.pow10Tab := by
 have hl : laidMet Tryz.prog Rows.parserValidRow.laid W := h
 obtain ⟨g, t, cs, fuel, p, h1, h2, h3, h4⟩ := laid_at (n := "internal/strconv.uint64pow10") (d := Lib.tabData .u64 Lib.pow10Tab) hl (List.mem_of_getElem? (i := 2) rfl)
 obtain rfl : 9 = g := Option.some.inj ((show Tryz.prog.globalNamed "internal/strconv.uint64pow10" = some 9 by kernel_rfl).symm.trans h1)
 obtain rfl : t = 215 := (Option.some.inj ((show (Tryz.prog.globals[9]?).map (·.type) = some 215 by kernel_rfl).symm.trans h2)).symm
 unfold Lib.TabIs
 rw [h3, ← Lib.cells_of_tab Tryz.underlying215 Tryz.underlying186 (by kernel_rfl) (by kernel_rfl) h4]
theorem syEnv_of {W : World} (h : laidMetH Tryz.prog Rows.parserValidRow.laid W) : SyEnv W := by
 have hl : laidMet Tryz.prog Rows.parserValidRow.laid W := h
 have hk := strings_at hl (g := 3) Lex.keywords (by decide) (List.mem_of_getElem? (i := 6) rfl) (by kernel_rfl) (by kernel_rfl) (by kernel_rfl)
 have hs := strings_at hl (g := 1) Lex.symbols (by decide) (List.mem_of_getElem? (i := 7) rfl) (by kernel_rfl) (by kernel_rfl) (by kernel_rfl)
 exact ⟨⟨⟨hk, hs, iface_at hl (g := 6) (List.mem_of_getElem? (i := 4) rfl) (by kernel_rfl) (by kernel_rfl) Tryz.underlying123⟩, forms_at h⟩, ⟨ops_at h, pow10_at h⟩⟩
end Go.Proofs.YtdckddkalgnlpaaGreatDoor
