/-
  Trees of few nodes: how deep they are, how long their texts, how great their sizes. No program in sight.
-/
import Derived.Test.YtlgfickhkejdjaaGreatDoorMSyA
import Derived.Test.YtlgfickhkejdjaaGreatDoorMTrA
namespace Go.Proofs.YtlgfickhkejdjaaGreatDoor
namespace Sy
open Tr
mutual
/-- all integers are of 64 bits -/
def i64E : E → Prop
  | .mk _ _ i _ _ l => I64 i ∧ i64Es l
def i64Es : List E → Prop
  | [] => True
  | e :: r => i64E e ∧ i64Es r
end
mutual
def i64S : S → Prop
  | .mk _ _ x b l => i64Es x ∧ i64Ss b ∧ i64Ss l
def i64Ss : List S → Prop
  | [] => True
  | e :: r => i64S e ∧ i64Ss r
end
def i64P (cs : List C) : Prop := ∀ c ∈ cs, ∀ m ∈ c.methods, i64Ss m.body
theorem i64E_eq (e : E) : i64E e ↔ I64 e.int ∧ i64Es e.args := by cases e; rw [i64E]; exact Iff.rfl
theorem i64S_eq (e : S) : i64S e ↔ i64Es e.exprs ∧ i64Ss e.body ∧ i64Ss e.els := by cases e; rw [i64S]; exact Iff.rfl
theorem i64Es_of : ∀ l : List E, (∀ e ∈ l, i64E e) → i64Es l
  | [], _ => by rw [i64Es]; trivial
  | e :: r, h => by rw [i64Es]; exact ⟨h e (by simp), i64Es_of r fun x hx => h x (by simp [hx])⟩
theorem i64Ss_of : ∀ l : List S, (∀ e ∈ l, i64S e) → i64Ss l
  | [], _ => by rw [i64Ss]; trivial
  | e :: r, h => by rw [i64Ss]; exact ⟨h e (by simp), i64Ss_of r fun x hx => h x (by simp [hx])⟩
end Sy
theorem SlE.i64 {w : World} {v : Value} {l : List Tr.E} (h : SlE w v l) : Sy.i64Es l := by
  induction h with
  | nil p c => rw [Sy.i64Es]; trivial
  | row b o c l A hn hm hc ha ih =>
    refine Sy.i64Es_of l fun e he => ?_
    obtain ⟨j, hj⟩ := List.getElem?_of_mem he
    rw [Sy.i64E_eq]
    exact ⟨(hc j e hj).2.int, ih j e hj⟩
theorem SlS.i64 {w : World} {v : Value} {l : List Tr.S} (h : SlS w v l) : Sy.i64Ss l := by
  induction h with
  | nil p c => rw [Sy.i64Ss]; trivial
  | row b o c l X Y Z hn hm hc hx hy hz ih1 ih2 =>
    refine Sy.i64Ss_of l fun e he => ?_
    obtain ⟨j, hj⟩ := List.getElem?_of_mem he
    rw [Sy.i64S_eq]
    exact ⟨(hx j e hj).i64, ih1 j e hj, ih2 j e hj⟩
theorem SlC.i64 {w : World} {v : Value} {l : List Tr.C} (h : SlC w v l) : Sy.i64P l := by
  intro c hc m hm
  obtain ⟨p, k, _, _, _, hx⟩ := h
  obtain ⟨j, hj⟩ := List.getElem?_of_mem hc
  obtain ⟨_, b, o, x, y, _, _, _, _, h4⟩ := hx j c hj
  obtain ⟨p2, k2, _, _, _, hx2⟩ := h4
  obtain ⟨i, hi⟩ := List.getElem?_of_mem hm
  obtain ⟨_, b, o, x, y, _, _, _, _, h5⟩ := hx2 i m hi
  exact h5.i64
namespace Sy
open Tr

/-! ### lengths of texts -/
def tl (ts : List (Nat × Bytes)) : Nat := (ts.map fun t => t.2.length + 4).sum
theorem tl_nil : tl [] = 0 := rfl
theorem tl_cons (t : Nat × Bytes) (r : List (Nat × Bytes)) : tl (t :: r) = t.2.length + 4 + tl r := by simp [tl]
theorem par_len (r : Nat) (x : Nat × Bytes) : (par r x).length ≤ x.2.length + 2 := by
  unfold par
  split
  · simp only [List.length_append, List.length_cons, List.length_nil]; omega
  · omega
theorem commas_len : ∀ ts : List (Nat × Bytes), (commas (ts.map Prod.snd)).length ≤ tl ts
  | [] => by simp [commas]
  | [t] => by rw [tl_cons]; show t.2.length ≤ _; omega
  | t :: u :: r => by
    have h := commas_len (u :: r)
    rw [tl_cons]
    show (t.2 ++ [44, 32] ++ commas (u.2 :: r.map Prod.snd)).length ≤ _
    have h2 : (commas (u.2 :: r.map Prod.snd)).length ≤ tl (u :: r) := h
    simp only [List.length_append, List.length_cons, List.length_nil]
    omega
theorem head_len (ts : List (Nat × Bytes)) : (ts.headD (9, [])).2.length ≤ tl ts := by
  cases ts with
  | nil => exact Nat.zero_le _
  | cons t r => rw [tl_cons]; show t.2.length ≤ _; omega
theorem two_len (ts : List (Nat × Bytes)) : (ts.headD (9, [])).2.length + ((ts.drop 1).headD (9, [])).2.length ≤ tl ts := by
  cases ts with
  | nil => exact Nat.zero_le _
  | cons t r =>
    have := head_len r
    rw [tl_cons]
    show t.2.length + (r.headD (9, [])).2.length ≤ _
    omega
theorem more_len (ts : List (Nat × Bytes)) : (ts.headD (9, [])).2.length + (commas ((ts.drop 1).map Prod.snd)).length ≤ tl ts := by
  cases ts with
  | nil => exact Nat.zero_le _
  | cons t r =>
    have := commas_len r
    rw [tl_cons]
    show t.2.length + (commas (r.map Prod.snd)).length ≤ _
    omega
theorem tl_append (a b : List (Nat × Bytes)) : tl (a ++ b) = tl a + tl b := by simp [tl]
theorem last_len (ts : List (Nat × Bytes)) : (commas (ts.dropLast.map Prod.snd)).length + (ts.getLastD (9, [])).2.length ≤ tl ts := by
  rcases List.eq_nil_or_concat ts with rfl | ⟨r, t, rfl⟩
  · exact Nat.zero_le _
  · have := commas_len r
    rw [List.concat_eq_append, List.dropLast_concat, List.getLastD_concat, tl_append, tl_cons, tl_nil]
    omega
theorem ite_len {c : Prop} [Decidable c] {a b : Bytes} {n : Nat} (h1 : a.length ≤ n) (h2 : b.length ≤ n) : (if c then a else b).length ≤ n := by
  split <;> assumption
theorem sym_len (o : Int) : (sym o).length ≤ 3 := by
  unfold sym
  repeat' refine ite_len ?_ ?_
  all_goals decide
set_option maxHeartbeats 2000000 in
theorem node_len (k o i : Int) (nm : Bytes) (a : Bool) (ts : List (Nat × Bytes)) (hi : I64 i) : (node k o i nm a ts).length ≤ tl ts + nm.length + 40 := by
  have h1 := head_len ts
  have h2 := two_len ts
  have h3 := commas_len ts
  have h4 := last_len ts
  have h5 : (dec i.toNat).length ≤ 19 := dec_len 18 i.toNat (by have := hi.2; omega)
  have p8 := par_len 8 (ts.headD (9, []))
  have p7 := par_len 7 (ts.headD (9, []))
  have p3 := par_len 3 (ts.headD (9, []))
  have q7 := par_len 7 (ts.getLastD (9, []))
  have q1 := par_len (if opLevel o = 4 then 5 else opLevel o) (ts.headD (9, []))
  have q2 := par_len (opLevel o + 1) ((ts.drop 1).headD (9, []))
  have s3 := sym_len o
  unfold node
  repeat' refine ite_len ?_ ?_
  all_goals ((try simp only [List.length_append, List.length_cons, List.length_nil]); omega)

/-! ### out of few nodes -/
theorem leftEs_head {e : E} {r : List E} {n : Int} (h : 0 ≤ leftEs (e :: r) n) : 0 ≤ n ∧ 0 ≤ leftE e n ∧ leftEs (e :: r) n = leftEs r (leftE e n) := by
  by_cases h0 : n < 0
  · rw [leftEs, if_pos h0] at h; omega
  · rw [leftEs, if_neg h0] at h ⊢
    refine ⟨by omega, ?_, rfl⟩
    rcases Int.lt_or_le (leftE e n) 0 with hlt | hge
    · rw [leftEs_neg hlt] at h; omega
    · exact hge
mutual
theorem textE_few : ∀ (e : E) (n : Int), 0 ≤ n → 0 ≤ leftE e n → i64E e → (text e).length + 4 ≤ 100 * sizeE e ∧ (sizeE e : Int) ≤ n - leftE e n ∧ e.deep ≤ sizeE e
  | .mk k o i nm a l, n, h0, h, hi => by
    rw [i64E] at hi
    rw [leftE] at h ⊢
    by_cases h4 : 40 < nm.size
    · rw [if_pos h4] at h; omega
    · rw [if_neg h4] at h ⊢
      obtain ⟨b1, b2, b3⟩ := textEs_few l (n - 1) h hi.2
      have b4 := node_len k o i nm.data.toList a (texts l) hi.1
      rw [data_len] at b4
      rw [text, sizeE, E.deep]
      exact ⟨by omega, by omega, by omega⟩
theorem textEs_few : ∀ (l : List E) (n : Int), 0 ≤ leftEs l n → i64Es l → tl (texts l) ≤ 100 * sizeEs l ∧ (sizeEs l : Int) ≤ n - leftEs l n ∧ E.deep.deeps l ≤ sizeEs l
  | [], n, h, _ => by rw [texts, sizeEs, leftEs, E.deep.deeps, tl_nil]; exact ⟨by omega, by omega, by omega⟩
  | e :: r, n, h, hi => by
    obtain ⟨a1, a2, a3⟩ := leftEs_head h
    rw [a3] at h ⊢
    rw [i64Es] at hi
    obtain ⟨b1, b2, b3⟩ := textE_few e n a1 a2 hi.1
    obtain ⟨c1, c2, c3⟩ := textEs_few r _ h hi.2
    rw [texts, sizeEs, E.deep.deeps, tl_cons]
    refine ⟨?_, by omega, by omega⟩
    show (text e).length + 4 + _ ≤ _
    omega
end
theorem line_len (d : Nat) (s : Bytes) : (line d s).length = 2 * d + s.length + 1 := by
  unfold line ind
  simp only [List.length_append, List.length_replicate, List.length_cons, List.length_nil]
set_option maxHeartbeats 2000000 in
theorem simple_len (k : Int) (nm : Bytes) (ts : List (Nat × Bytes)) : (simple k nm ts).length ≤ tl ts + nm.length + 40 := by
  have h1 := head_len ts
  have h2 := two_len ts
  have h3 := more_len ts
  have p9 := par_len 9 (ts.headD (9, []))
  have p8 := par_len 8 (ts.headD (9, []))
  unfold simple
  repeat' refine ite_len ?_ ?_
  all_goals ((try simp only [List.length_append, List.length_cons, List.length_nil]); omega)
theorem stmtT_len (d : Nat) (k : Int) (nm : Bytes) (ts : List (Nat × Bytes)) (body els : Bytes) (other : Bool) : (stmtT d k nm ts body els other).length ≤ tl ts + nm.length + 6 * d + 60 + body.length + els.length := by
  have h1 := head_len ts
  have h2 := simple_len k nm ts
  unfold stmtT
  refine ite_len ?_ (ite_len ?_ ?_)
  · cases other
    · simp only [List.length_append, List.length_cons, List.length_nil, line_len, Bool.false_eq_true, if_false]; omega
    · simp only [List.length_append, List.length_cons, List.length_nil, line_len, if_true]; omega
  all_goals (simp only [List.length_append, List.length_cons, List.length_nil, line_len]; omega)
theorem leftSs_head {e : S} {r : List S} {n : Int} (h : 0 ≤ leftSs (e :: r) n) : 0 ≤ n ∧ 0 ≤ leftS e n ∧ leftSs (e :: r) n = leftSs r (leftS e n) := by
  by_cases h0 : n < 0
  · rw [leftSs, if_pos h0] at h; omega
  · rw [leftSs, if_neg h0] at h ⊢
    refine ⟨by omega, ?_, rfl⟩
    rcases Int.lt_or_le (leftS e n) 0 with hlt | hge
    · rw [leftSs_neg hlt] at h; omega
    · exact hge
theorem leftS_parts {k : Int} {nm : ByteArray} {x : List E} {b l : List S} {n : Int} (h : 0 ≤ leftS (.mk k nm x b l) n) : nm.size ≤ 40 ∧ 0 ≤ leftEs x (n - 1) ∧ 0 ≤ leftSs b (leftEs x (n - 1)) ∧ 0 ≤ leftSs l (leftSs b (leftEs x (n - 1))) ∧ leftS (.mk k nm x b l) n = leftSs l (leftSs b (leftEs x (n - 1))) := by
  rw [leftS] at h ⊢
  by_cases h4 : 40 < nm.size
  · rw [if_pos h4] at h; omega
  · rw [if_neg h4] at h ⊢
    simp only [] at h ⊢
    by_cases a1 : 0 ≤ leftEs x (n - 1)
    · rw [if_pos a1] at h ⊢
      by_cases a2 : 0 ≤ leftSs b (leftEs x (n - 1))
      · rw [if_pos a2] at h ⊢
        exact ⟨by omega, a1, a2, h, rfl⟩
      · rw [if_neg a2] at h; exact absurd h a2
    · rw [if_neg a1, if_neg a1] at h; exact absurd h a1
mutual
theorem stmt_few : ∀ (s : S) (n : Int) (d Q : Nat), 0 ≤ leftS s n → i64S s → 6 * (d + s.deep) + 200 ≤ Q → (stmt d s).length ≤ Q * sizeS s ∧ (sizeS s : Int) ≤ n - leftS s n ∧ s.deep ≤ sizeS s
  | .mk k nm x b l, n, d, Q, h, hi, hQ => by
    rw [i64S] at hi
    rw [S.deep] at hQ ⊢
    obtain ⟨a0, a1, a2, a3, a4⟩ := leftS_parts h
    obtain ⟨b1, b2, b3⟩ := textEs_few x (n - 1) a1 hi.1
    obtain ⟨c1, c2, c3⟩ := stmts_few b _ (d + 1) Q a2 hi.2.1 (by omega)
    obtain ⟨d1, d2, d3⟩ := stmts_few l _ (d + 1) Q a3 hi.2.2 (by omega)
    have e1 := stmtT_len d k nm.data.toList (texts x) (stmts (d + 1) b) (stmts (d + 1) l) (decide (0 < l.length))
    rw [data_len] at e1
    rw [stmt, sizeS, a4]
    have f1 : 100 * sizeEs x ≤ Q * sizeEs x := Nat.mul_le_mul_right _ (by omega)
    have f2 : Q * (1 + sizeEs x + sizeSs b + sizeSs l) = Q + Q * sizeEs x + Q * sizeSs b + Q * sizeSs l := by rw [Nat.mul_add, Nat.mul_add, Nat.mul_add, Nat.mul_one]
    rw [f2]
    exact ⟨by omega, by omega, by omega⟩
theorem stmts_few : ∀ (l : List S) (n : Int) (d Q : Nat), 0 ≤ leftSs l n → i64Ss l → 6 * (d + S.deep.deeps l) + 200 ≤ Q → (stmts d l).length ≤ Q * sizeSs l ∧ (sizeSs l : Int) ≤ n - leftSs l n ∧ S.deep.deeps l ≤ sizeSs l
  | [], n, d, Q, h, _, _ => by rw [stmts, sizeSs, leftSs, S.deep.deeps]; exact ⟨by simp, by omega, by omega⟩
  | e :: r, n, d, Q, h, hi, hQ => by
    obtain ⟨a1, a2, a3⟩ := leftSs_head h
    rw [a3] at h ⊢
    rw [i64Ss] at hi
    rw [S.deep.deeps] at hQ ⊢
    obtain ⟨b1, b2, b3⟩ := stmt_few e n d Q a2 hi.1 (by omega)
    obtain ⟨c1, c2, c3⟩ := stmts_few r _ d Q h hi.2 (by omega)
    rw [stmts, sizeSs, List.length_append, Nat.mul_add]
    exact ⟨by omega, by omega, by omega⟩
end
theorem shortL_parts {l : List ByteArray} {n : Int} (h : 0 ≤ shortL l n) : (∀ s ∈ l, s.size ≤ 40) ∧ shortL l n = n - l.length := by
  unfold shortL at h ⊢
  by_cases h0 : l.any (fun s => decide (40 < s.size)) = true
  · rw [if_pos h0] at h; omega
  · rw [if_neg h0]
    refine ⟨fun s hs => ?_, rfl⟩
    rw [List.any_eq_true] at h0
    rcases Nat.lt_or_ge 40 s.size with h1 | h1
    · exact absurd ⟨s, hs, by simp [h1]⟩ h0
    · exact h1
theorem params_len : ∀ l : List ByteArray, (∀ s ∈ l, s.size ≤ 40) → (commas (l.map (·.data.toList))).length ≤ 100 * l.length
  | [], _ => by simp [commas]
  | [s], h => by
    have := h s (by simp)
    show s.data.toList.length ≤ _
    rw [data_len]; simp only [List.length_cons, List.length_nil]; omega
  | s :: t :: r, h => by
    have h1 := h s (by simp)
    have h2 := params_len (t :: r) fun x hx => h x (by simp at hx ⊢; exact .inr hx)
    have h3 : (commas (t.data.toList :: r.map fun x : ByteArray => x.data.toList)).length ≤ 100 * (t :: r).length := h2
    show (s.data.toList ++ [44, 32] ++ commas (t.data.toList :: r.map fun x : ByteArray => x.data.toList)).length ≤ _
    rw [List.length_append, List.length_append, data_len]
    simp only [List.length_cons, List.length_nil] at h3 ⊢
    omega
theorem fields_len : ∀ l : List ByteArray, (∀ s ∈ l, s.size ≤ 40) → ((l.map fieldT).flatten).length ≤ 100 * l.length
  | [], _ => by simp
  | s :: r, h => by
    have h1 := h s (by simp)
    have h2 := fields_len r fun x hx => h x (by simp [hx])
    rw [List.map_cons, List.flatten_cons, List.length_append, fieldT, line_len]
    simp only [List.length_append, List.length_cons, List.length_nil, data_len]
    omega
theorem leftM_parts {m : M} {n : Int} (h : 0 ≤ leftM m n) : m.name.size ≤ 40 ∧ (∀ s ∈ m.params, s.size ≤ 40) ∧ 0 ≤ n - 1 - m.params.length ∧ 0 ≤ leftSs m.body (n - 1 - m.params.length) ∧ leftM m n = leftSs m.body (n - 1 - m.params.length) := by
  unfold leftM at h ⊢
  by_cases h4 : 40 < m.name.size
  · rw [if_pos h4] at h; omega
  · rw [if_neg h4] at h ⊢
    simp only [] at h ⊢
    by_cases a1 : 0 ≤ shortL m.params (n - 1)
    · rw [if_pos a1] at h ⊢
      obtain ⟨b1, b2⟩ := shortL_parts a1
      rw [b2] at h a1 ⊢
      exact ⟨by omega, b1, a1, h, rfl⟩
    · rw [if_neg a1] at h; exact absurd h a1
theorem method_few (m : M) (n : Int) (Q : Nat) (hn : n ≤ 1000) (h : 0 ≤ leftM m n) (hi : i64Ss m.body) (hQ : 6212 ≤ Q) : (methodT m).length ≤ Q * sizeM m ∧ (sizeM m : Int) ≤ n - leftM m n ∧ S.deep.deeps m.body ≤ 1000 ∧ m.params.length ≤ 1000 := by
  obtain ⟨a1, a2, a3, a4, a5⟩ := leftM_parts h
  have e0 : S.deep.deeps m.body ≤ 1000 := by
    have h1 := (stmts_few m.body _ 2 (6 * (2 + S.deep.deeps m.body) + 200) a4 hi (Nat.le_refl _)).2
    omega
  obtain ⟨c1, c2, c3⟩ := stmts_few m.body _ 2 Q a4 hi (by omega)
  have e1 := params_len m.params a2
  rw [a5]
  refine ⟨?_, ?_, e0, by omega⟩
  · unfold methodT sizeM
    simp only [List.length_append, List.length_cons, List.length_nil, line_len, data_len]
    have f1 : 100 * m.params.length ≤ Q * m.params.length := Nat.mul_le_mul_right _ (by omega)
    rw [Nat.mul_add, Nat.mul_add, Nat.mul_one]
    omega
  · unfold sizeM
    omega
theorem methods_few : ∀ (l : List M) (n : Int) (Q : Nat), n ≤ 1000 → 0 ≤ leftMs l n → (∀ m ∈ l, i64Ss m.body) → 6212 ≤ Q → ((l.map methodT).flatten).length ≤ Q * (l.map sizeM).sum ∧ ((l.map sizeM).sum : Int) ≤ n - leftMs l n ∧ ∀ m ∈ l, S.deep.deeps m.body ≤ 1000 ∧ m.params.length ≤ 1000
  | [], n, Q, _, h, _, _ => by rw [leftMs]; exact ⟨by simp, by simp, fun m hm => absurd hm (by simp)⟩
  | m :: r, n, Q, hn, h, hi, hQ => by
    have h0 : 0 ≤ n := by
      rcases Int.lt_or_le n 0 with h0 | h0
      · rw [leftMs, if_pos h0] at h; omega
      · exact h0
    rw [leftMs_cons h0] at h ⊢
    have h1 : 0 ≤ leftM m n := by
      rcases Int.lt_or_le (leftM m n) 0 with hlt | hge
      · rw [leftMs_neg hlt] at h; omega
      · exact hge
    obtain ⟨a1, a2, a3, a4⟩ := method_few m n Q hn h1 (hi m (by simp)) hQ
    have h5 := leftM_le m n h0
    obtain ⟨b1, b2, b3⟩ := methods_few r _ Q (by omega) h (fun x hx => hi x (by simp [hx])) hQ
    rw [List.map_cons, List.flatten_cons, List.length_append, List.map_cons, List.sum_cons, Nat.mul_add]
    refine ⟨by omega, by omega, fun x hx => ?_⟩
    rcases List.mem_cons.1 hx with rfl | hx
    · exact ⟨a3, a4⟩
    · exact b3 x hx
theorem class_few (c : C) (n : Int) (Q : Nat) (hn : n ≤ 1000) (h : 0 ≤ leftC c n) (hi : ∀ m ∈ c.methods, i64Ss m.body) (hQ : 6212 ≤ Q) : (classT c).length ≤ Q * sizeC c ∧ (sizeC c : Int) ≤ n - leftC c n ∧ ∀ m ∈ c.methods, S.deep.deeps m.body ≤ 1000 ∧ m.params.length ≤ 1000 := by
  unfold leftC at h ⊢
  by_cases h4 : 40 < c.name.size
  · rw [if_pos h4] at h; omega
  · rw [if_neg h4] at h ⊢
    have a1 : 0 ≤ shortL c.fields (n - 1) := by
      have := leftMs_le c.methods (shortL c.fields (n - 1))
      omega
    obtain ⟨b1, b2⟩ := shortL_parts a1
    rw [b2] at h a1 ⊢
    obtain ⟨c1, c2, c3⟩ := methods_few c.methods _ Q (by omega) h hi hQ
    have e1 := fields_len c.fields b1
    refine ⟨?_, ?_, c3⟩
    · unfold classT sizeC
      have e2 : (if c.actor then [97, 99, 116, 111, 114, 32] else [114, 101, 99, 111, 114, 100, 32] : Bytes).length ≤ 7 := by cases c.actor <;> decide
      rw [List.length_append, List.length_append, List.length_append, line_len, line_len, List.length_append, List.length_append, data_len]
      simp only [List.length_cons, List.length_nil]
      have f1 : 100 * c.fields.length ≤ Q * c.fields.length := Nat.mul_le_mul_right _ (by omega)
      rw [Nat.mul_add, Nat.mul_add, Nat.mul_one]
      omega
    · unfold sizeC
      omega
theorem prog_few : ∀ (l : List C) (n : Int) (Q : Nat), n ≤ 1000 → 0 ≤ leftCs l n → i64P l → 6212 ≤ Q → (progT l).length ≤ Q * sizeP l ∧ (sizeP l : Int) ≤ n - leftCs l n ∧ ∀ c ∈ l, ∀ m ∈ c.methods, S.deep.deeps m.body ≤ 1000 ∧ m.params.length ≤ 1000
  | [], n, Q, _, h, _, _ => by rw [leftCs]; exact ⟨by simp [progT], by simp [sizeP], fun m hm => absurd hm (by simp)⟩
  | c :: r, n, Q, hn, h, hi, hQ => by
    have h0 : 0 ≤ n := by
      rcases Int.lt_or_le n 0 with h0 | h0
      · rw [leftCs, if_pos h0] at h; omega
      · exact h0
    rw [leftCs_cons h0] at h ⊢
    have h1 : 0 ≤ leftC c n := by
      rcases Int.lt_or_le (leftC c n) 0 with hlt | hge
      · rw [leftCs_neg hlt] at h; omega
      · exact hge
    obtain ⟨a1, a2, a3⟩ := class_few c n Q hn h1 (hi c (by simp)) hQ
    have h5 := leftC_le c n h0
    obtain ⟨b1, b2, b3⟩ := prog_few r _ Q (by omega) h (fun x hx => hi x (by simp [hx])) hQ
    unfold progT sizeP at b1 ⊢
    unfold sizeP at b2
    rw [List.map_cons, List.flatten_cons, List.length_append, List.map_cons, List.sum_cons, Nat.mul_add]
    refine ⟨by omega, by omega, fun x hx => ?_⟩
    rcases List.mem_cons.1 hx with rfl | hx
    · exact a3
    · exact b3 x hx
theorem expr_small {e : E} {n : Int} (h : fewE e n = true) (h0 : 0 ≤ n) (hn : n ≤ 1000) (hi : i64E e) : e.deep ≤ 1000 ∧ sizeE e ≤ 1000 ∧ (text e).length ≤ 100000 := by
  have h1 : 0 ≤ leftE e n := of_decide_eq_true h
  obtain ⟨a1, a2, a3⟩ := textE_few e n h0 h1 hi
  exact ⟨by omega, by omega, by omega⟩
theorem prog_small {cs : List C} {n : Int} (h : fewP cs n = true) (hn : n ≤ 1000) (hi : i64P cs) : (∀ c ∈ cs, ∀ m ∈ c.methods, S.deep.deeps m.body ≤ 1000 ∧ m.params.length ≤ 1000) ∧ sizeP cs ≤ 1000 ∧ (progT cs).length ≤ 7000000 := by
  have h1 : 0 ≤ leftCs cs n := of_decide_eq_true h
  obtain ⟨a1, a2, a3⟩ := prog_few cs n 7000 hn h1 hi (by omega)
  exact ⟨a3, by omega, by omega⟩
end Sy
end Go.Proofs.YtlgfickhkejdjaaGreatDoor
