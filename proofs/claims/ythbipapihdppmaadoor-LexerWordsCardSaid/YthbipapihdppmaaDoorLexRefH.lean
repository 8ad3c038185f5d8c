/-
  The reference's Scan, walked.
-/
import Derived.Test.YthbipapihdppmaaDoorLexRefG
import Derived.Test.YthbipapihdppmaaDoorLexSpec2
namespace Go.Proofs.YthbipapihdppmaaDoor
open Go.RowKit

def tokCells (t : Lex.Tok) : List Value := [.int .i64 (t.kind : Nat), .string ⟨t.text.toArray⟩, .int .i64 (t.val : Nat), .int .i64 (t.pos : Nat)]
def toksCells (ts : List Lex.Tok) : List Value := ts.flatMap tokCells

/-- what Scan returns -/
def ScanPost (s : ByteArray) (w : World) (e : Ending) (w' : World) : Prop :=
  (∃ a er : Nat, Lex.scan s.data.toList = .bad a er ∧ e = .returned (.tuple #[.slice none 0 0, .int .i64 a, .int .i64 er]) ∧ Below w.heap.size w w') ∨
  (∃ (ts : List Lex.Tok) (v : Value), Lex.scan s.data.toList = .toks ts ∧ e = .returned (.tuple #[v, .int .i64 0, .int .i64 0]) ∧ w'.ownsRow w.heap.size 30 4 v ts.length (toksCells ts) ∧ Below w.heap.size w w')

theorem tokInfo : (Tryd.prog.info? 30).map (fun i => (i.zero, i.size, i.bytes)) = some (some (.agg #[.int .i64 0, .string ⟨#[]⟩, .int .i64 0, .int .i64 0]), 4, 40) := by kernel_rfl

theorem toksCells_snoc (ts : List Lex.Tok) (t : Lex.Tok) : toksCells (ts ++ [t]) = toksCells ts ++ tokCells t := by simp [toksCells]

/-- the invariant of the loop over the tokens -/
structure ScanInv (s : ByteArray) (B : Nat) (w : World) (k : Nat) (ts : List Lex.Tok) (out : Value) (wr : World) : Prop where
  le : k ≤ s.size
  few : ts.length ≤ k
  own : wr.ownsRow B 30 4 out ts.length (toksCells ts)
  below : Below B w wr
  same : ∃ f, (rest s k).length ≤ f ∧ Lex.scan s.data.toList = Lex.pre ts (Lex.scanF s.size f (rest s k))

set_option maxRecDepth 100000 in
set_option maxHeartbeats 1000000 in
theorem scan_ref_long (s : ByteArray) (w : World) (hs : s.size ≤ 9223372036854775800) (hl : 16384 < s.size) :
    Calls Tryd.prog 11 #[.string s] w (ScanPost s w) := by
  go_enter Tryd.func11, Tryd.ntmps11
  go_wp2
  go_ret3
  exact .inl ⟨0, 8, by unfold Lex.scan; rw [if_pos (by rw [← Lib.size_eq]; exact hl)], rfl, Below.refl _ _⟩

theorem news_cells {W : World} {h0 : Array Obj} {cs : Array Value} {t : TypeId} {b : Nat} (hW : W.heap = h0.push (.cells cs t)) (hb : b = h0.size) (j : Nat) (u : Value) (h : cs.toList[j]? = some u) :
    W.cell? ((⟨b, 0, none⟩ : Addr).add j) = some u := by
  have hadd : (⟨b, 0, none⟩ : Addr).add j = ⟨b, j, none⟩ := by unfold Addr.add; split <;> simp_all
  rw [hadd]
  unfold World.cell?
  simp [hW, hb]
  simpa using h

theorem below_grown {w w' : World} (h : Below w.heap.size w w') : w.grownBy w' none := ⟨h.os, h.tape, h.output, h.size, fun k hk _ => h.block k hk⟩
theorem own_below {w w' : World} {base : Nat} {e : TypeId} {size : Nat} {v : Value} {n : Nat} {xs : List Value} (h : w.ownsRow base e size v n xs) (hb : Below w.heap.size w w') : w'.ownsRow base e size v n xs :=
  h.kept (below_grown hb) (by cases v.ownBlock <;> simp)

theorem rest_skip (s : ByteArray) (k : Nat) (hk : k ≤ s.size) : rest s (s.size - (Lex.skip false (rest s k)).length) = Lex.skip false (rest s k) := by
  have h := Lex.skip_drop false (rest s k)
  have hle := Lex.skip_le false (rest s k)
  rw [rest_len] at h hle
  conv => rhs; rw [h]
  unfold rest
  rw [List.drop_drop]
  congr 1
  unfold rest at hle
  omega

set_option maxRecDepth 100000 in
set_option maxHeartbeats 1000000 in
theorem scan_ref_short (s : ByteArray) (w : World) (hl : s.size ≤ 16384) :
    Calls Tryd.prog 11 #[.string s] w (ScanPost s w) := by
  obtain ⟨i0, hi, hz0, hz1, hz2⟩ := info_parts tokInfo
  go_enter Tryd.func11, Tryd.ntmps11
  go_wp2_with (go_at_call 24; refine (skip_ref _ _ _ (by omega) (by omega) (by omega)).mono ?_; rintro e w' ⟨rfl, rfl⟩)
  go_loopw [5, 6] (fun out i wr => ∃ (k : Nat) (ts : List Lex.Tok), i = .int .i64 k ∧ ScanInv s w.heap.size w k ts out wr) (fun _ i _ => s.size - (intOf i).toNat)
  case atStart =>
    refine ⟨_, [], rfl, ?_⟩
    have h0 : rest s 0 = s.data.toList := by unfold rest; rw [List.drop_zero]
    have hk := rest_skip s 0 (Nat.zero_le _)
    refine ⟨by omega, by simp, World.ownsRow_made w #[] 0 (Nat.le_refl _) (Nat.zero_le _) rfl, (Below.refl _ _).alloc (Nat.le_refl _) _, s.size, by rw [rest_len]; omega, ?_⟩
    rw [Lex.pre_nil]
    unfold Lex.scan
    rw [if_neg (by rw [← Lib.size_eq]; omega), ← Lib.size_eq]
    show Lex.scanF s.size s.size (Lex.skip false s.data.toList) = Lex.scanF s.size s.size (rest s (s.size - (Lex.skip false (rest s 0)).length))
    rw [hk, h0]
  case round =>
    obtain ⟨k, ts, rfl, I⟩ := hrel
    have hk := I.le
    have hfew := I.few
    have hown := I.own
    have hbel := I.below
    have hsz := hbel.size
    by_cases hlt : k < s.size
    · obtain ⟨f, hf, hsame⟩ := I.same
      clear I
      rw [rest_len] at hf
      obtain ⟨f, rfl⟩ : ∃ g, f = g + 1 := ⟨f - 1, by omega⟩
      have HS := Lib.hid hsame
      clear hsame
      cases hnx : Lex.next (rest s k) with
      | bad er =>
        have hN : ∀ w0, Calls Tryd.prog 25 #[.string s, .int .i64 k] w0 fun e w' => e = .returned (.tuple #[.agg #[.int .i64 0, .string ⟨#[]⟩, .int .i64 0, .int .i64 0], .int .i64 er]) ∧ Below w0.heap.size w0 w' := by
          intro w0
          have h := next_ref s k w0 (by omega) (by omega) (by omega)
          rw [Int.toNat_natCast, hnx] at h
          exact h
        have HN := Lib.hid hN
        have hne : ((er : Int) != 0) = true := by
          rw [bne_iff_ne]
          have := Lex.next_bad hnx
          omega
        have HX := Lib.hid hnx
        clear hN hnx
        go_wp2_with (go_at_call 25; refine (HN.out _).mono ?_; rintro e w1 ⟨rfl, hb1⟩)
        go_ret3
        refine .inl ⟨k, er, ?_, rfl, ?_⟩
        · rw [HS.out]
          have hx := HX.out
          rw [rest_cons s k hlt] at hx ⊢
          rw [Lex.scanF_bad hx]
          have hl2 := rest_len s k
          rw [rest_cons s k hlt] at hl2
          rw [hl2]
          simp only [Lex.pre]
          congr 1
          omega
        · exact (hbel.trans (hb1.mono (by omega))).alloc (by have := hb1.size; omega) _
      | tok kd tx vl =>
        have hN : ∀ w0, Calls Tryd.prog 25 #[.string s, .int .i64 k] w0 fun e w' => e = .returned (.tuple #[.agg #[.int .i64 kd, .string ⟨tx.toArray⟩, .int .i64 vl, .int .i64 k], .int .i64 0]) ∧ Below w0.heap.size w0 w' := by
          intro w0
          have h := next_ref s k w0 (by omega) (by omega) (by omega)
          rw [Int.toNat_natCast, hnx] at h
          exact h
        have HN := Lib.hid hN
        have hx := hnx
        have hl2 := rest_len s k
        rw [rest_cons s k hlt] at hx hl2
        obtain ⟨htx, hp, hle⟩ := Lex.next_text hx
        rw [hl2] at hle
        have HX := Lib.hid hx
        have HTX := Lib.hid htx
        have HL2 := Lib.hid hl2
        clear hN hnx hx htx hl2
        go_wp2_with (first
          | (go_at_call 25; refine (HN.out _).mono ?_; rintro e w1 ⟨rfl, hb1⟩; have hown1 := own_below hown hb1; have hs1 := hb1.size)
          | (at_builtin; refine wpList_append_own _ rfl _ _ 23 rfl w.heap.size 30 i0 (.agg #[.int .i64 0, .string ⟨#[]⟩, .int .i64 0, .int .i64 0]) 4 40 Tryd.underlying23 hi hz0 hz1 hz2 rfl (by decide) _ _ _ rfl ((hown1.alloc _).alloc _) ⟨w1.heap.size + 1, 0, none⟩ 1 1 [.int .i64 kd, .string ⟨tx.toArray⟩, .int .i64 vl, .int .i64 k] rfl rfl (news_cells (cs := #[.int .i64 kd, .string ⟨tx.toArray⟩, .int .i64 vl, .int .i64 k]) rfl (by simp)) (by simp [Value.oneCell']) (by unfold maxLen; omega) (by omega) (by simp <;> omega) ?_; intro v' w2 hown2 hgrow _; have hc2 := hgrow.cell (a := ⟨w1.heap.size, 1, none⟩) (v := .string ⟨tx.toArray⟩) (by simp) (fun e => by have := (hown.lt _ e.symm).2; simp at this; omega))
          | (go_at_call 24; refine (skip_ref _ _ _ (by omega) (by omega) (by omega)).mono ?_; rintro e w' ⟨rfl, rfl⟩))
        go_roundw
        case rel =>
          have hk2 := rest_skip s (k + tx.length) (by omega)
          have hle2 := Lex.skip_le false (rest s (k + tx.length))
          rw [rest_len] at hle2
          have e1 : ((k : Int) + (tx.length : Int)).toNat = k + tx.length := by omega
          rw [e1]
          refine ⟨_, ts ++ [⟨kd, tx, vl, k⟩], rfl, ?_⟩
          refine ⟨by omega, by rw [List.length_append, List.length_singleton]; omega, ?_, ?_, f, ?_, ?_⟩
          · rw [toksCells_snoc, List.length_append]; exact hown2
          · exact (((hbel.trans (hb1.mono (by omega))).alloc (by omega) _).alloc (by simp <;> omega) _).grown hgrow (by simp <;> omega) fun q hq => (hown.lt q hq).1
          · rw [hk2]; omega
          · rw [HS.out, hk2]
            have hx := HX.out
            rw [rest_cons s k hlt, Lex.scanF_tok hx]
            have hl2 := HL2.out
            rw [hl2]
            congr 1
            · rw [show s.size - (s.size - k) = k by omega]
            · congr 1
              rw [← rest_cons s k hlt]
              unfold rest
              rw [List.drop_drop]
        case measure =>
          have hle2 := Lex.skip_le false (rest s (k + tx.length))
          rw [rest_len] at hle2
          have e1 : ((k : Int) + (tx.length : Int)).toNat = k + tx.length := by omega
          rw [e1]
          simp [intOf]; omega
    · go_wp2_with (at_builtin; refine wpList_append_own _ rfl _ _ 23 rfl w.heap.size 30 i0 (.agg #[.int .i64 0, .string ⟨#[]⟩, .int .i64 0, .int .i64 0]) 4 40 Tryd.underlying23 hi hz0 hz1 hz2 rfl (by decide) _ _ _ rfl (hown.alloc _) ⟨wr.heap.size, 0, none⟩ 1 1 [.int .i64 0, .string ⟨#[]⟩, .int .i64 0, .int .i64 s.size] rfl rfl (news_cells (cs := #[.int .i64 0, .string ⟨#[]⟩, .int .i64 0, .int .i64 s.size]) rfl (by simp)) (by simp [Value.oneCell']) (by unfold maxLen; omega) (by omega) (by simp <;> omega) ?_; intro v' w1 hown1 hgrow _)
      go_ret3
      refine .inr ⟨ts ++ [⟨0, [], 0, s.size⟩], v', ?_, rfl, ?_, ?_⟩
      · obtain ⟨f, hf, hsame⟩ := I.same
        rw [hsame, rest_nil s k (by omega), Lex.scanF_nil]; rfl
      · rw [toksCells_snoc, List.length_append]; exact hown1
      · exact (hbel.alloc (by omega) _).grown hgrow (by simp <;> omega) fun q hq => (hown.lt q hq).1

theorem scan_ref (s : ByteArray) (w : World) (hs : s.size ≤ 9223372036854775800) : Calls Tryd.prog 11 #[.string s] w (ScanPost s w) := by
  by_cases h : s.size ≤ 16384
  · exact scan_ref_short s w h
  · exact scan_ref_long s w hs (by omega)
end Go.Proofs.YthbipapihdppmaaDoor
