/-
  The law LexerJoins, walked.
-/
import Derived.Test.YthbipapihdppmaaDoorLexBare
import Derived.Test.YthbipapihdppmaaDoorLexLawTokens
import Derived.Laws.AppendOwnNone
namespace Go.Proofs.YthbipapihdppmaaDoor
open Go.RowKit

/-- append of one owned row to another, nil or not -/
theorem wpList_append_rows {P : Program} {w : World} {ops : Array Oper} {rest : List Oper} {o : Oper} {a : Act} {Q : Exit → Act → World → Prop} (hgd : o.guard = none) (s x : Operand) (t : TypeId)
    (ho : o.op = .call { callee := .builtin .append, args := #[s, x], argTypes := #[t, t] })
    (base base2 : Nat) (e : TypeId) (i : TypeInfo) (z : Value) (size bytes : Nat) (ht : P.underlying t = some (.slice e)) (hi : P.info? e = some i) (hz : i.zero = some z)
    (hsize : i.size = size) (hby : i.bytes = bytes) (hzs : z.cells.size = size) (hsz : 0 < size)
    (v v2 : Value) (n m : Nat) (xs news : List Value) (hs : a.eval s = v) (hx : a.eval x = v2) (hown : w.ownsRow base e size v n xs) (hown2 : w.ownsRow base2 e size v2 m news) (h1 : ∀ u ∈ news, u.oneCell' = true)
    (h63 : n + m ≤ maxLen) (hbytes : (n + m) * bytes ≤ 140737488355328) (hbase : base ≤ w.heap.size)
    (h : ∀ v' w', w'.ownsRow base e size v' (n + m) (xs ++ news) → w.grownBy w' v.ownBlock → wpList P ops Q rest (a.put o.dst v') w') : wpList P ops Q (o :: rest) a w := by
  have hl := hown2.1
  rcases hown2.2 with ⟨rfl, rfl⟩ | ⟨g, cap, cur, rfl, hg⟩
  · rw [Nat.zero_mul] at hl
    obtain rfl := List.eq_nil_of_length_eq_zero hl
    refine wpList_append_own_none hgd s x t ho base e i size ht hi v n xs hs hown hx ?_
    exact h v w (by rw [List.append_nil]; exact hown) (grown_refl w _)
  · exact wpList_append_own w hgd s x t ho base e i z size bytes ht hi hz hsize hby hzs hsz v n xs hs hown ⟨g, 0, none⟩ m cap news hx hl (hown2.cells rfl) h1 h63 hbytes hbase fun v' w' a1 a2 _ => h v' w' a1 a2

theorem toks_one (ts : List Lex.Tok) : ∀ u ∈ toksCells ts, u.oneCell' = true := by
  intro u hu
  unfold toksCells at hu
  obtain ⟨t, _, h⟩ := List.mem_flatMap.1 hu
  simp only [tokCells, List.mem_cons, List.not_mem_nil, or_false] at h
  rcases h with rfl | rfl | rfl | rfl <;> rfl
theorem toksCells_append (a b : List Lex.Tok) : toksCells (a ++ b) = toksCells a ++ toksCells b := by simp [toksCells]

/-- Same, at two lists of the same tokens -/
theorem same_own (B1 B2 : Nat) (v1 v2 : Value) (ts : List Lex.Tok) (w : World) (hl : ts.length ≤ 1000000) (h1 : w.ownsRow B1 30 4 v1 ts.length (toksCells ts)) (h2 : w.ownsRow B2 30 4 v2 ts.length (toksCells ts)) :
    Calls Tryd.prog 12 #[v1, v2] w fun e w' => e = .returned (.bool true) ∧ Below w.heap.size w w' := by
  by_cases hn : ts = []
  · subst hn
    have f : ∀ {B : Nat} {v : Value}, w.ownsRow B 30 4 v 0 [] → ∃ a c, v = .slice a 0 c := by
      intro B v h
      rcases h.2 with ⟨rfl, _⟩ | ⟨g, cap, cur, rfl, _⟩
      · exact ⟨_, _, rfl⟩
      · exact ⟨_, _, rfl⟩
    obtain ⟨a1, c1, rfl⟩ := f h1
    obtain ⟨a2, c2, rfl⟩ := f h2
    exact (same_none a1 a2 c1 c2 w).mono fun e w' ⟨p, q⟩ => ⟨p, q ▸ Below.refl _ _⟩
  · obtain ⟨g1, c1, rfl, _, k1, _, _⟩ := toks_of_own h1 hn
    obtain ⟨g2, c2, rfl, _, k2, _, _⟩ := toks_of_own h2 hn
    refine (same_any g1 g2 c1 c2 ts ts w rfl hl k1 k2).mono fun e w' ⟨p, q⟩ => ⟨?_, q⟩
    rw [p]; simp

set_option maxRecDepth 100000 in
set_option maxHeartbeats 1000000 in
theorem law_joins_far (a b : ByteArray) (w : World) (hE : LexEnv w) (hfar : 300 < a.size ∨ (a.size ≤ 300 ∧ 300 < b.size)) :
    Calls Tryd.prog 5 #[.string a, .string b] w fun e w' => e = .returned (.bool true) ∧ Below w.heap.size w w' := by
  have HE := Lib.hid hE
  clear hE
  have ha : ∀ w0, LexEnv w0 → Calls Tryd.prog 9 #[] w0 fun e w' => e = .returned (.bool true) ∧ Below w0.heap.size w0 w' := fun w0 h => awake_any w0 h
  have HA := Lib.hid ha
  clear ha
  rcases hfar with hf | ⟨hf1, hf2⟩
  all_goals
    go_enter Tryd.func5, Tryd.ntmps5
    go_wp2_with fail
    refine (HA.out _ HE.out).mono ?_
    rintro e w1 ⟨rfl, hb1⟩
    go_wp2_with fail
    go_ret
    exact ⟨rfl, hb1⟩

theorem join_text (a b : ByteArray) : (a ++ (⟨#[10]⟩ : ByteArray) ++ b).data.toList = a.data.toList ++ 10 :: b.data.toList := by
  rw [ByteArray.data_append, ByteArray.data_append, Array.toList_append, Array.toList_append]; simp

set_option maxRecDepth 100000 in
set_option maxHeartbeats 1000000 in
theorem law_joins_bad (a b : ByteArray) (w : World) (hE : LexEnv w) (h1 : a.size ≤ 300) (h2 : b.size ≤ 300) (p er : Nat) (hsc : Lex.scan a.data.toList = .bad p er) :
    Calls Tryd.prog 5 #[.string a, .string b] w fun e w' => e = .returned (.bool true) ∧ Below w.heap.size w w' := by
  have HE := Lib.hid hE
  clear hE
  have ha : ∀ w0, LexEnv w0 → Calls Tryd.prog 9 #[] w0 fun e w' => e = .returned (.bool true) ∧ Below w0.heap.size w0 w' := fun w0 h => awake_any w0 h
  have HA := Lib.hid ha
  clear ha
  have hn1 : a.size ≤ 9223372036854775800 := by omega
  have hn2 : b.size ≤ 9223372036854775800 := by omega
  have hjt := join_text a b
  have hn3 : (a ++ (⟨#[10]⟩ : ByteArray) ++ b).size ≤ 9223372036854775800 := by rw [Lib.size_eq, hjt, List.length_append, List.length_cons, ← Lib.size_eq, ← Lib.size_eq]; omega
  have hj := scan_join_bad (b := b.data.toList) (by rw [← Lib.size_eq]; exact h1) (by rw [← Lib.size_eq]; exact h2) hsc
  rw [← hjt] at hj
  have hpos : 0 < er := scan_badpos hsc
  have hne : ((er : Int) != 0) = true := by rw [bne_iff_ne]; omega
  have HSC := Lib.hid hsc
  have HJ := Lib.hid hj
  have HN3 := Lib.hid hn3
  clear hsc hj hjt hpos hn3
  go_enter Tryd.func5, Tryd.ntmps5
  go_wp2_with fail
  refine (HA.out _ HE.out).mono ?_
  rintro e w1 ⟨rfl, hb1⟩
  have HE1 := Lib.hid (HE.out.keep hb1)
  go_wp2_with fail
  refine (scan_any a _ HE1.out hn1).mono ?_
  rintro e w2 hp2
  obtain ⟨rfl, hb2⟩ := post_bad hp2 HSC.out
  clear hp2
  have HE2 := Lib.hid (HE1.out.keep hb2)
  go_wp2_with fail
  refine (scan_any b _ HE2.out hn2).mono ?_
  rintro e w3 hp3
  have hp3' : ∃ l e1 e2, e = .returned (.tuple #[l, .int .i64 e1, .int .i64 e2]) ∧ Below w2.heap.size w2 w3 := by
    rcases hp3 with ⟨a', er', _, rfl, hbel⟩ | ⟨us, v, _, rfl, _, hbel⟩
    · exact ⟨_, _, _, rfl, hbel⟩
    · exact ⟨_, _, _, rfl, hbel⟩
  clear hp3
  obtain ⟨l3, e3, f3, rfl, hb3⟩ := hp3'
  have HE3 := Lib.hid (HE2.out.keep hb3)
  go_wp2_with fail
  refine (scan_any _ _ HE3.out HN3.out).mono ?_
  rintro e w4 hp4
  obtain ⟨rfl, hb4⟩ := post_bad hp4 HJ.out
  clear hp4
  go_wp2_with fail
  go_ret
  have s1 := hb1.size
  have s2 := hb2.size
  have s3 := hb3.size
  exact ⟨by simp, ((hb1.trans (hb2.mono s1)).trans (hb3.mono (by omega))).trans (hb4.mono (by omega))⟩
end Go.Proofs.YthbipapihdppmaaDoor
