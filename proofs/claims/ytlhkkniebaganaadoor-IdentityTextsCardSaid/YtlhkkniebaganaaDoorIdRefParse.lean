/-
  Identities: the reference's Parse, walked.
-/
import Derived.Test.YtlhkkniebaganaaDoorIdRefNum
namespace Go.Proofs.YtlhkkniebaganaaDoor
open Go.RowKit

/-- what the reference makes of a text, by its own steps -/
def rparse (l : List UInt8) : Id.I × Int :=
  match l with
  | [] => ((0, 0), 3)
  | c :: r =>
    if c.toNat ≠ 109 then ((0, 0), 3)
    else if (rnum r).2 = 0 ∨ (r.length : Int) = (rnum r).2 ∨ (r.getD (rnum r).2.toNat 0).toNat ≠ 58 then ((0, 0), 3)
    else if (rnum (r.drop ((rnum r).2.toNat + 1))).2 = 0 ∨ (rnum r).2 + 1 + (rnum (r.drop ((rnum r).2.toNat + 1))).2 ≠ (r.length : Int) then ((0, 0), 3)
    else if Id.validB (rnum r).1 (rnum (r.drop ((rnum r).2.toNat + 1))).1 = true then (((rnum r).1, (rnum (r.drop ((rnum r).2.toNat + 1))).1), 0) else ((0, 0), 2)

theorem rnum_nat (l : List UInt8) : 0 ≤ (rnum l).2 ∧ (rnum l).2 ≤ (l.length : Int) ∧ 0 ≤ (rnum l).1 ∧ (rnum l).1 ≤ 1000000000000000 := by
  unfold rnum
  have h1 := dpre_le l
  have h2 := capV_le (dpre l)
  split
  · simp
  · simp only []; omega
/-- the head of a text ends at a colon exactly if its digits do -/
theorem upTo_dpre {r : List UInt8} (h1 : Id.numOk (Id.upTo r) = true) (h2 : (Id.upTo r).length < r.length) : dpre r = Id.upTo r ∧ (r.getD (Id.upTo r).length 0).toNat = 58 := by
  have hs := Id.upTo_split h2
  have hd : ∀ c ∈ Id.upTo r, Id.digit c = true := by
    unfold Id.numOk at h1
    simp only [Bool.and_eq_true] at h1
    exact List.all_eq_true.1 h1.1.2
  constructor
  · have := dpre_end (l := r) (k := (Id.upTo r).length) (by omega) (fun j hj => ?_) (fun _ => ?_)
    · rw [this, upTo_take]
    · rw [hs, List.getD_eq_getElem?_getD, List.getElem?_append_left hj, List.getElem?_eq_getElem hj]
      exact hd _ (List.getElem_mem hj)
    · rw [hs, List.getD_eq_getElem?_getD, List.getElem?_append_right (by simp [← hs])]
      simp [← hs]
      decide
  · rw [hs, List.getD_eq_getElem?_getD, List.getElem?_append_right (by simp [← hs])]
    simp [← hs]
theorem numOk_iff (l : List UInt8) : Id.numOk l = true ↔ l ≠ [] ∧ (∀ c ∈ l, Id.digit c = true) ∧ ¬ (1 < l.length ∧ (l.headD 0).toNat = 48) := by
  unfold Id.numOk
  simp only [Bool.and_eq_true, Bool.not_eq_true', decide_eq_true_eq, Bool.and_eq_false_iff, decide_eq_false_iff_not, List.all_eq_true]
  constructor
  · rintro ⟨⟨a, b⟩, c⟩
    exact ⟨a, b, fun h => c.elim (fun c => c h.1) (fun c => c h.2)⟩
  · rintro ⟨a, b, c⟩
    refine ⟨⟨a, b⟩, ?_⟩
    by_cases h : 1 < l.length
    · exact .inr fun h2 => c ⟨h, h2⟩
    · exact .inl h
theorem headD_take (l : List UInt8) (k : Nat) (h : 0 < k) : (l.take k).headD 0 = l.headD 0 := by
  cases l with
  | nil => simp
  | cons a l => cases k with | zero => omega | succ k => rfl
/-- the number at the head of a text, where it is one -/
theorem rnum_pos {l : List UInt8} (h : (rnum l).2 ≠ 0) : Id.numOk (dpre l) = true ∧ rnum l = (((capV (dpre l) : Nat) : Int), (((dpre l).length : Nat) : Int)) := by
  unfold rnum at h ⊢
  by_cases c : 1 < (dpre l).length ∧ (l.headD 0).toNat = 48
  · rw [if_pos c] at h; exact absurd rfl h
  · rw [if_neg c] at h ⊢
    have hne : dpre l ≠ [] := fun e => by rw [e] at h; exact h rfl
    refine ⟨(numOk_iff _).2 ⟨hne, dpre_all l, fun hh => c ⟨hh.1, ?_⟩⟩, rfl⟩
    rw [← headD_take l (dpre l).length (List.length_pos_iff.2 hne), dpre_take]
    exact hh.2
theorem rnum_of {l : List UInt8} (h : Id.numOk (dpre l) = true) : rnum l = (((capV (dpre l) : Nat) : Int), (((dpre l).length : Nat) : Int)) := by
  obtain ⟨h1, _, h3⟩ := (numOk_iff _).1 h
  unfold rnum
  rw [if_neg]
  rintro ⟨a, b⟩
  refine h3 ⟨a, ?_⟩
  rw [← dpre_take l, headD_take l _ (List.length_pos_iff.2 h1)]
  exact b
theorem dpre_self {l : List UInt8} (h : ∀ c ∈ l, Id.digit c = true) : dpre l = l := by
  have := dpre_end (l := l) (k := l.length) (Nat.le_refl _) (fun j hj => by
    rw [List.getD_eq_getElem?_getD, List.getElem?_eq_getElem hj]
    exact h _ (List.getElem_mem hj)) (fun h => by omega)
  rw [this, List.take_length]
theorem dpre_upTo {r : List UInt8} (h : (r.getD (dpre r).length 0).toNat = 58) (hlt : (dpre r).length < r.length) : Id.upTo r = dpre r := by
  have hs : r = dpre r ++ r.drop (dpre r).length := by
    conv => lhs; rw [← List.take_append_drop (dpre r).length r]
    rw [dpre_take]
  have hc : r.drop (dpre r).length = 58 :: r.drop ((dpre r).length + 1) := by
    rw [List.drop_eq_getElem_cons hlt]
    congr 1
    rw [List.getD_eq_getElem?_getD, List.getElem?_eq_getElem hlt] at h
    exact UInt8.toNat_inj.1 h
  rw [hc] at hs
  conv => lhs; rw [hs]
  exact Id.upTo_app fun c hc => Id.digit_ne (dpre_all r c hc)
theorem validB_cap (a b : List UInt8) : Id.validB (capV a : Nat) (capV b : Nat) = Id.validB (Id.value a : Nat) (Id.value b : Nat) ∧ (Id.validB (Id.value a : Nat) (Id.value b : Nat) = true → capV a = Id.value a ∧ capV b = Id.value b) := by
  rw [capV_eq, capV_eq]
  unfold Id.validB
  constructor
  · rw [Bool.eq_iff_iff, decide_eq_true_eq, decide_eq_true_eq]; omega
  · intro h; rw [decide_eq_true_eq] at h; omega

theorem rparse_eq (l : List UInt8) : rparse l = Id.parse l := by
  cases l with
  | nil => rfl
  | cons c r =>
    rw [Id.parse_cons]
    unfold rparse
    simp only []
    have hrl := rnum_nat r
    by_cases hA : c = 109 ∧ (Id.upTo r).length < r.length ∧ Id.numOk (Id.upTo r) = true ∧ Id.numOk (r.drop ((Id.upTo r).length + 1)) = true
    · rw [if_pos hA]
      obtain ⟨rfl, hlt, h1, h2⟩ := hA
      obtain ⟨hd, hcol⟩ := upTo_dpre h1 hlt
      have hr := rnum_of (l := r) (by rw [hd]; exact h1)
      have hne1 := ((numOk_iff _).1 h1).1
      obtain ⟨hne2, hdig2, _⟩ := (numOk_iff _).1 h2
      have hb := rnum_of (l := r.drop ((Id.upTo r).length + 1)) (by rw [dpre_self hdig2]; exact h2)
      rw [hd] at hr
      rw [dpre_self hdig2] at hb
      have hp1 := List.length_pos_iff.2 hne1
      have hp2 := List.length_pos_iff.2 hne2
      have hlen : (r.drop ((Id.upTo r).length + 1)).length = r.length - ((Id.upTo r).length + 1) := List.length_drop
      rw [hr]
      simp only [Int.toNat_natCast]
      rw [hb]
      simp only []
      have q1 : ¬ ((((Id.upTo r).length : Nat) : Int) = 0 ∨ (r.length : Int) = ((Id.upTo r).length : Int) ∨ (r.getD (Id.upTo r).length 0).toNat ≠ 58) := by
        rintro (h | h | h)
        · omega
        · omega
        · exact h hcol
      have q2 : ¬ ((((r.drop ((Id.upTo r).length + 1)).length : Nat) : Int) = 0 ∨ ((Id.upTo r).length : Int) + 1 + ((r.drop ((Id.upTo r).length + 1)).length : Int) ≠ (r.length : Int)) := by
        rintro (h | h) <;> omega
      rw [if_neg (by decide), if_neg q1, if_neg q2]
      obtain ⟨k1, k2⟩ := validB_cap (Id.upTo r) (r.drop ((Id.upTo r).length + 1))
      rw [k1]
      by_cases h4 : Id.validB (Id.value (Id.upTo r)) (Id.value (r.drop ((Id.upTo r).length + 1))) = true
      · rw [if_pos h4, if_pos h4, (k2 h4).1, (k2 h4).2]
      · rw [if_neg h4, if_neg h4]
    · rw [if_neg hA]
      by_cases h1 : c.toNat ≠ 109
      · rw [if_pos h1]
      · rw [if_neg h1]
        have hc : c = 109 := UInt8.toNat_inj.1 (by simpa using h1)
        by_cases h2 : (rnum r).2 = 0 ∨ (r.length : Int) = (rnum r).2 ∨ (r.getD (rnum r).2.toNat 0).toNat ≠ 58
        · rw [if_pos h2]
        · rw [if_neg h2]
          by_cases h3 : (rnum (r.drop ((rnum r).2.toNat + 1))).2 = 0 ∨ (rnum r).2 + 1 + (rnum (r.drop ((rnum r).2.toNat + 1))).2 ≠ (r.length : Int)
          · rw [if_pos h3]
          · exfalso
            have n1 : (rnum r).2 ≠ 0 := fun e => h2 (.inl e)
            have n2 : (r.length : Int) ≠ (rnum r).2 := fun e => h2 (.inr (.inl e))
            have n3 : (r.getD (rnum r).2.toNat 0).toNat = 58 := Classical.byContradiction fun e => h2 (.inr (.inr e))
            have n4 : (rnum (r.drop ((rnum r).2.toNat + 1))).2 ≠ 0 := fun e => h3 (.inl e)
            have n5 : (rnum r).2 + 1 + (rnum (r.drop ((rnum r).2.toNat + 1))).2 = (r.length : Int) := Classical.byContradiction fun e => h3 (.inr e)
            obtain ⟨o1, e1⟩ := rnum_pos n1
            obtain ⟨o2, e2⟩ := rnum_pos n4
            have l1 : (rnum r).2 = ((dpre r).length : Int) := by rw [e1]
            rw [l1] at n2 n3 n4 n5 e2 o2
            simp only [Int.toNat_natCast] at n3 n4 n5 e2 o2
            have hdl := dpre_le r
            have hlt : (dpre r).length < r.length := by omega
            have hu := dpre_upTo n3 hlt
            have l2 : (rnum (r.drop ((dpre r).length + 1))).2 = ((dpre (r.drop ((dpre r).length + 1))).length : Int) := by rw [e2]
            have hfull : dpre (r.drop ((dpre r).length + 1)) = r.drop ((dpre r).length + 1) := by
              have h5 : (dpre (r.drop ((dpre r).length + 1))).length = (r.drop ((dpre r).length + 1)).length := by rw [List.length_drop]; omega
              exact (show (dpre (r.drop ((dpre r).length + 1))).Sublist (r.drop ((dpre r).length + 1)) from List.takeWhile_sublist _).eq_of_length_le (by omega)
            rw [hfull] at o2
            exact hA ⟨hc, by rw [hu]; exact hlt, by rw [hu]; exact o1, by rw [hu]; exact o2⟩

/-- the reference's Parse, as the lists of bytes have it -/
theorem rest_extract (s : ByteArray) (k : Nat) : (s.extract k s.size).data.toList = s.data.toList.drop k := by
  rw [Lib.extract_data]
  exact List.take_of_length_le (by rw [List.length_drop, ← Lib.size_eq]; omega)

set_option maxRecDepth 100000 in
set_option maxHeartbeats 4000000 in
theorem rparse_any (s : ByteArray) (w : World) (hs : s.size ≤ 1000) :
    Calls Tryd.prog 10 #[.string s] w fun e w' => e = .returned (.tuple #[idV (rparse s.data.toList).1, .int .i64 (rparse s.data.toList).2]) ∧ Below w.heap.size w w' := by
  have hn0 := cell_new w 0 0
  have hbw := below_alloc w (.cells #[.int .i64 0, .int .i64 0] 23)
  obtain ⟨z0, z1, z2, z3⟩ := hn0
  have HBW := Lib.hid hbw
  cases hx : s.data.toList with
  | nil =>
    have e1 : s.toList.isEmpty = true := by rw [Lib.toList_data, hx]; rfl
    have e2 : s.toList = [] := by rw [Lib.toList_data, hx]
    clear hx hbw
    go_enter Tryd.func10, Tryd.ntmps10
    go_wp2_with fail
    refine bodyPost_ret (v := .tuple #[.agg #[.int .i64 0, .int .i64 0], .int .i64 3]) (by simp [results, Tryd.results10, go_sem, z0, z1]) rfl ⟨rfl, ?_⟩
    first | exact HBW.out | exact HBW.out.setCell (Nat.le_refl _) _ | exact (HBW.out.setCell (Nat.le_refl _) _).setCell (Nat.le_refl _) _
  | cons c r =>
    have hp : 0 < s.size := by rw [Lib.size_eq, hx]; simp
    have hc : s[0] = c := by rw [get_getD s 0 hp, hx]; rfl
    have e1 : s.toList.isEmpty = false := by rw [Lib.toList_data, hx]; rfl
    have hr1 : (s.extract 1 s.size).data.toList = r := by rw [rest_extract, hx]; rfl
    have hrs : s.size = r.length + 1 := by rw [Lib.size_eq, hx]; rfl
    by_cases h1 : c.toNat = 109
    · have e4 : ((s[0].toNat : Int) != 109) = false := by rw [hc, h1]; rfl
      obtain ⟨b1, b2, b3, b4⟩ := rnum_nat r
      have hN1 := rnumber_any (s.extract 1 s.size) 
      rw [hr1] at hN1
      obtain ⟨A, hA⟩ : ∃ A : Nat, (rnum r).2 = A := ⟨(rnum r).2.toNat, by omega⟩
      obtain ⟨m, hm⟩ : ∃ m, (rnum r).1 = m := ⟨_, rfl⟩
      rw [hA, hm] at hN1
      rw [hA] at b1 b2
      rw [hm] at b3 b4
      have hsz1 : (s.extract 1 s.size).size ≤ 1000000 := by rw [Lib.size_eq, hr1]; omega
      have HN1 := Lib.hid (fun w0 => hN1 w0 hsz1)
      have hget : ∀ k, k + 1 < s.size → (s.data.toList.getD (k + 1) 0) = r.getD k 0 := fun k _ => by rw [hx]; rfl
      have hdrop : (s.extract (2 + A) s.size).data.toList = r.drop (A + 1) := by rw [rest_extract, hx, show 2 + A = (A + 1) + 1 by omega]; rfl
      have hrp : rparse (c :: r) = (if (A : Int) = 0 ∨ (r.length : Int) = (A : Int) ∨ (r.getD A 0).toNat ≠ 58 then ((0, 0), 3)
          else if (rnum (r.drop (A + 1))).2 = 0 ∨ (A : Int) + 1 + (rnum (r.drop (A + 1))).2 ≠ (r.length : Int) then ((0, 0), 3)
          else if Id.validB m (rnum (r.drop (A + 1))).1 = true then ((m, (rnum (r.drop (A + 1))).1), 0) else ((0, 0), 2)) := by
        unfold rparse
        simp only []
        rw [if_neg (by omega), hA, hm]
        simp only [Int.toNat_natCast]
      have HRP := Lib.hid hrp
      have hAb : A ≤ 1000 := by omega
      clear hrp hA hm hN1 hsz1 hc hbw hr1 h1
      by_cases a1 : A = 0
      · subst a1
        have hfin : rparse (c :: r) = ((0, 0), 3) := by rw [HRP.out, if_pos (.inl rfl)]
        rw [hfin]
        clear hx hrs hget hdrop hfin
        go_enter Tryd.func10, Tryd.ntmps10
        go_wp2_with fail
        refine (HN1.out _).mono ?_
        rintro e w' ⟨rfl, rfl⟩
        go_wp2_with fail
        refine bodyPost_ret (v := .tuple #[.agg #[.int .i64 0, .int .i64 0], .int .i64 3]) (by simp [results, Tryd.results10, go_sem, z0, z1]) rfl ⟨rfl, ?_⟩
        first | exact HBW.out | exact HBW.out.setCell (Nat.le_refl _) _ | exact (HBW.out.setCell (Nat.le_refl _) _).setCell (Nat.le_refl _) _
      · have q1 : ((A : Int) == 0) = false := by rw [beq_eq_false_iff_ne]; omega
        by_cases a2 : r.length = A
        · have q2 : ((s.size : Int) == 1 + (A : Int)) = true := by rw [beq_iff_eq]; omega
          have hfin : rparse (c :: r) = ((0, 0), 3) := by rw [HRP.out, if_pos (.inr (.inl (by omega)))]
          rw [hfin]
          clear hx hrs hget hdrop hfin a1 a2
          go_enter Tryd.func10, Tryd.ntmps10
          go_wp2_with fail
          refine (HN1.out _).mono ?_
          rintro e w' ⟨rfl, rfl⟩
          go_wp2_with fail
          refine bodyPost_ret (v := .tuple #[.agg #[.int .i64 0, .int .i64 0], .int .i64 3]) (by simp [results, Tryd.results10, go_sem, z0, z1]) rfl ⟨rfl, ?_⟩
          first | exact HBW.out | exact HBW.out.setCell (Nat.le_refl _) _ | exact (HBW.out.setCell (Nat.le_refl _) _).setCell (Nat.le_refl _) _
        · have q2 : ((s.size : Int) == 1 + (A : Int)) = false := by rw [beq_eq_false_iff_ne]; omega
          have hlt : 1 + A < s.size := by omega
          have hg : s[1 + A] = r.getD A 0 := by
            rw [get_getD s (1 + A) hlt, show 1 + A = A + 1 by omega]
            exact hget A (by omega)
          have q3 : (1 : Int) + (A : Int) < (s.size : Int) := by omega
          by_cases a3 : (r.getD A 0).toNat = 58
          · have q4 : ((s[1 + A].toNat : Int) != 58) = false := by rw [hg, a3]; rfl
            obtain ⟨c1, c2, c3, c4⟩ := rnum_nat (r.drop (A + 1))
            have hN2 := rnumber_any (s.extract (2 + A) s.size)
            rw [hdrop] at hN2
            obtain ⟨E, hE⟩ : ∃ E : Nat, (rnum (r.drop (A + 1))).2 = E := ⟨(rnum (r.drop (A + 1))).2.toNat, by omega⟩
            obtain ⟨n, hn⟩ : ∃ n, (rnum (r.drop (A + 1))).1 = n := ⟨_, rfl⟩
            rw [hE, hn] at hN2
            rw [hE] at c1 c2
            rw [hn] at c3 c4
            have hsz2 : (s.extract (2 + A) s.size).size ≤ 1000000 := by rw [Lib.size_eq, hdrop, List.length_drop]; omega
            have HN2 := Lib.hid (fun w0 => hN2 w0 hsz2)
            have hrp := HRP.out
            have qq : ¬ ((A : Int) = 0 ∨ (r.length : Int) = (A : Int) ∨ (r.getD A 0).toNat ≠ 58) := by
              rintro (h | h | h)
              · omega
              · omega
              · exact h a3
            rw [hE, hn, if_neg qq] at hrp
            have HRP2 := Lib.hid hrp
            rw [List.length_drop] at c2
            have hEb : E ≤ 1000 := by omega
            have q5 : ((2 : Int) + (A : Int)) ≤ (s.size : Int) := by omega
            by_cases bad : E = 0 ∨ 2 + A + E ≠ s.size
            · have hfin : rparse (c :: r) = ((0, 0), 3) := by rw [HRP2.out, if_pos (by omega)]
              rw [hfin]
              by_cases bE : E = 0
              · subst bE
                clear hx hrs hget hdrop hfin a1 a2 hg a3 hE hn hN2 hsz2 hrp qq bad
                go_enter Tryd.func10, Tryd.ntmps10
                go_wp2_with fail
                refine (HN1.out _).mono ?_
                rintro e w' ⟨rfl, rfl⟩
                go_wp2_with fail
                refine (HN2.out _).mono ?_
                rintro e w' ⟨rfl, rfl⟩
                go_wp2_with fail
                refine bodyPost_ret (v := .tuple #[.agg #[.int .i64 0, .int .i64 0], .int .i64 3]) (by simp [results, Tryd.results10, go_sem, z0, z1]) rfl ⟨rfl, ?_⟩
                first | exact HBW.out | exact HBW.out.setCell (Nat.le_refl _) _ | exact (HBW.out.setCell (Nat.le_refl _) _).setCell (Nat.le_refl _) _
              · have q6 : ((E : Int) == 0) = false := by rw [beq_eq_false_iff_ne]; omega
                have q7 : ((2 : Int) + (A : Int) + (E : Int) != (s.size : Int)) = true := by rw [bne_iff_ne]; omega
                clear hx hrs hget hdrop hfin a1 a2 hg a3 hE hn hN2 hsz2 hrp qq bad bE
                go_enter Tryd.func10, Tryd.ntmps10
                go_wp2_with fail
                refine (HN1.out _).mono ?_
                rintro e w' ⟨rfl, rfl⟩
                go_wp2_with fail
                refine (HN2.out _).mono ?_
                rintro e w' ⟨rfl, rfl⟩
                go_wp2_with fail
                refine bodyPost_ret (v := .tuple #[.agg #[.int .i64 0, .int .i64 0], .int .i64 3]) (by simp [results, Tryd.results10, go_sem, z0, z1]) rfl ⟨rfl, ?_⟩
                first | exact HBW.out | exact HBW.out.setCell (Nat.le_refl _) _ | exact (HBW.out.setCell (Nat.le_refl _) _).setCell (Nat.le_refl _) _
            · have q6 : ((E : Int) == 0) = false := by rw [beq_eq_false_iff_ne]; omega
              have q7 : ((2 : Int) + (A : Int) + (E : Int) != (s.size : Int)) = false := by rw [bne_eq_false_iff_eq]; omega
              have hfin : rparse (c :: r) = if Id.validB m n = true then ((m, n), 0) else ((0, 0), 2) := by rw [HRP2.out, if_neg (by omega)]
              have HFIN := Lib.hid hfin
              have hlt3 : w.heap.size < (w.alloc (.cells #[.int .i64 0, .int .i64 0] 23)).heap.size := by simp
              have hn1 := cell_new (w.alloc (.cells #[.int .i64 0, .int .i64 0] 23)) m n
              have hb1 := below_alloc (w.alloc (.cells #[.int .i64 0, .int .i64 0] 23)) (.cells #[.int .i64 m, .int .i64 n] 23)
              have HB1 := Lib.hid (HBW.out.trans (hb1.mono (by simp)))
              have y0 := id_cell_keep hb1 z0
              have y1 := id_cell_keep hb1 z1
              have y2 := (hb1.frozen (p := ⟨w.heap.size, 0, none⟩) hlt3).trans z2
              have y3 := (hb1.frozen (p := ⟨w.heap.size, 1, none⟩) hlt3).trans z3
              simp only [World.size_alloc] at hn1
              obtain ⟨n0, n1, _, _⟩ := hn1
              have hV := fun w0 => validRef_any m n w0
              clear hx hrs hget hdrop hfin a1 a2 hg a3 hE hn hN2 hsz2 hrp qq bad hb1 hlt3
              cases hv : Id.validB m n
              all_goals
                have hV2 := hV
                rw [hv] at hV2
                have HV := Lib.hid hV2
                have HVV := Lib.hid hv
                clear hV hV2 hv
                go_enter Tryd.func10, Tryd.ntmps10
                go_wp2_with fail
                refine (HN1.out _).mono ?_
                rintro e w' ⟨rfl, rfl⟩
                go_wp2_with fail
                refine (HN2.out _).mono ?_
                rintro e w' ⟨rfl, rfl⟩
                go_wp2_with fail
                refine (HV.out _).mono ?_
                rintro e w3 ⟨rfl, hb3⟩
                have k0 := id_cell_keep hb3 y0
                have k1 := id_cell_keep hb3 y1
                have k2 := (hb3.frozen (p := ⟨w.heap.size, 0, none⟩) (by simp; omega)).trans y2
                have k3 := (hb3.frozen (p := ⟨w.heap.size, 1, none⟩) (by simp; omega)).trans y3
                have j0 := id_cell_keep hb3 n0
                have j1 := id_cell_keep hb3 n1
                have HB3 := Lib.hid (HB1.out.trans (hb3.mono HB1.out.size))
                clear hb3 y0 y1 y2 y3 n0 n1 z0 z1 z2 z3
                go_wp2_with fail
              · refine bodyPost_ret (v := .tuple #[.agg #[.int .i64 0, .int .i64 0], .int .i64 2]) (by simp [results, Tryd.results10, go_sem, k0, k1]) rfl ⟨?_, ?_⟩
                · rw [HFIN.out, HVV.out]; rfl
                · first | exact HB3.out | exact HB3.out.setCell (Nat.le_refl _) _ | exact (HB3.out.setCell (Nat.le_refl _) _).setCell (Nat.le_refl _) _
              · refine bodyPost_ret (v := .tuple #[.agg #[.int .i64 m, .int .i64 n], .int .i64 0]) (by simp [results, Tryd.results10, go_sem, k0, k1]) rfl ⟨?_, ?_⟩
                · rw [HFIN.out, HVV.out]; rfl
                · first | exact HB3.out | exact HB3.out.setCell (Nat.le_refl _) _ | exact (HB3.out.setCell (Nat.le_refl _) _).setCell (Nat.le_refl _) _
          · have q4 : ((s[1 + A].toNat : Int) != 58) = true := by rw [hg, bne_iff_ne]; omega
            have hfin : rparse (c :: r) = ((0, 0), 3) := by rw [HRP.out, if_pos (.inr (.inr a3))]
            rw [hfin]
            clear hx hrs hget hdrop hfin a1 a2 hg a3
            go_enter Tryd.func10, Tryd.ntmps10
            go_wp2_with fail
            refine (HN1.out _).mono ?_
            rintro e w' ⟨rfl, rfl⟩
            go_wp2_with fail
            refine bodyPost_ret (v := .tuple #[.agg #[.int .i64 0, .int .i64 0], .int .i64 3]) (by simp [results, Tryd.results10, go_sem, z0, z1]) rfl ⟨rfl, ?_⟩
            first | exact HBW.out | exact HBW.out.setCell (Nat.le_refl _) _ | exact (HBW.out.setCell (Nat.le_refl _) _).setCell (Nat.le_refl _) _
    · have e4 : ((s[0].toNat : Int) != 109) = true := by rw [hc, bne_iff_ne]; omega
      have hfin : rparse (c :: r) = ((0, 0), 3) := by unfold rparse; simp only []; rw [if_pos h1]
      rw [hfin]
      clear hx hbw hc hr1 hrs h1 hfin
      go_enter Tryd.func10, Tryd.ntmps10
      go_wp2_with fail
      refine bodyPost_ret (v := .tuple #[.agg #[.int .i64 0, .int .i64 0], .int .i64 3]) (by simp [results, Tryd.results10, go_sem, z0, z1]) rfl ⟨rfl, ?_⟩
      first | exact HBW.out | exact HBW.out.setCell (Nat.le_refl _) _ | exact (HBW.out.setCell (Nat.le_refl _) _).setCell (Nat.le_refl _) _
end Go.Proofs.YtlhkkniebaganaaDoor
