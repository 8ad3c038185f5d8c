/-
  The law LexerJoins, walked: the first source can be scanned.
-/
import Derived.Test.YthbipapihdppmaaDoorLexLawJoins
namespace Go.Proofs.YthbipapihdppmaaDoor
open Go.RowKit

theorem scanF_posle (n : Nat) : ∀ (f : Nat) (l : List UInt8) (ts : List Lex.Tok), Lex.scanF n f l = .toks ts → ∀ t ∈ ts, t.pos ≤ n
  | f, [], ts, h => by rw [Lex.scanF_nil] at h; cases h; simp
  | 0, _ :: _, ts, h => by cases h
  | f + 1, c :: r, ts, h => by
    cases hn : Lex.next (c :: r) with
    | bad e => rw [Lex.scanF_bad hn] at h; cases h
    | tok k t v =>
      have h2 := Lex.scanF_tok (n := n) (f := f) hn []
      rw [Lex.pre_nil, h] at h2
      cases hs : Lex.scanF n f (Lex.skip false ((c :: r).drop t.length)) with
      | bad a e => rw [hs] at h2; cases h2
      | toks l =>
        have ih := scanF_posle n f _ l hs
        rw [hs] at h2; cases h2
        intro t ht
        rw [List.nil_append] at ht
        rcases List.mem_append.1 ht with h3 | h3
        · rw [List.mem_singleton] at h3; subst h3; exact Nat.sub_le _ _
        · exact ih t h3
theorem scan_pos {a : List UInt8} {ts : List Lex.Tok} (h : Lex.scan a = .toks ts) {t : Lex.Tok} (ht : t ∈ ts) : t.pos ≤ a.length := by
  unfold Lex.scan at h
  split at h
  · cases h
  · exact scanF_posle _ _ _ _ h t ht

/-- append of one owned row to another, nil or not: the operation alone -/
theorem wp_append_rows {P : Program} {w : World} {o : Oper} {a : Act} {K : Act → World → Prop} {Q : Exit → Act → World → Prop} (s x : Operand) (t : TypeId)
    (ho : o.op = .call { callee := .builtin .append, args := #[s, x], argTypes := #[t, t] })
    (base base2 : Nat) (e : TypeId) (i : TypeInfo) (z : Value) (size bytes : Nat) (ht : P.underlying t = some (.slice e)) (hi : P.info? e = some i) (hz : i.zero = some z)
    (hsize : i.size = size) (hby : i.bytes = bytes) (hzs : z.cells.size = size) (hsz : 0 < size)
    (v v2 : Value) (n m : Nat) (xs news : List Value) (hs : a.eval s = v) (hx : a.eval x = v2) (hown : w.ownsRow base e size v n xs) (hown2 : w.ownsRow base2 e size v2 m news) (h1 : ∀ u ∈ news, u.oneCell' = true)
    (h63 : n + m ≤ maxLen) (hbytes : (n + m) * bytes ≤ 140737488355328) (hbase : base ≤ w.heap.size)
    (h : ∀ v' w', w'.ownsRow base e size v' (n + m) (xs ++ news) → w.grownBy w' v.ownBlock → K (a.put o.dst v') w') : o.wp P a w K Q := by
  have hl := hown2.1
  rcases hown2.2 with ⟨rfl, rfl⟩ | ⟨g, cap, cur, rfl, hg⟩
  · rw [Nat.zero_mul] at hl
    obtain rfl := List.eq_nil_of_length_eq_zero hl
    have hrun := run_append_owned_none (P := P) (w := w) base t o.type e i size ht hi v n xs hown
    unfold Oper.wp
    simp [execOp, ho, resolve, invoke, builtin, hs, hx, hrun, Result.andThen]
    exact h v w (by rw [List.append_nil]; exact hown) (grown_refl w _)
  · exact wp_append_own w s x t ho base e i z size bytes ht hi hz hsize hby hzs hsz v n xs hs hown ⟨g, 0, none⟩ m cap news hx hl (hown2.cells rfl) h1 h63 hbytes hbase fun v' w' a1 a2 _ => h v' w' a1 a2

theorem wpList_append_rows_g {P : Program} {w : World} {ops : Array Oper} {rest : List Oper} {o : Oper} {a : Act} {Q : Exit → Act → World → Prop} (hw : Region.wanted o (yielded ops a.tmps) = true) (s x : Operand) (t : TypeId)
    (ho : o.op = .call { callee := .builtin .append, args := #[s, x], argTypes := #[t, t] })
    (base base2 : Nat) (e : TypeId) (i : TypeInfo) (z : Value) (size bytes : Nat) (ht : P.underlying t = some (.slice e)) (hi : P.info? e = some i) (hz : i.zero = some z)
    (hsize : i.size = size) (hby : i.bytes = bytes) (hzs : z.cells.size = size) (hsz : 0 < size)
    (v v2 : Value) (n m : Nat) (xs news : List Value) (hs : a.eval s = v) (hx : a.eval x = v2) (hown : w.ownsRow base e size v n xs) (hown2 : w.ownsRow base2 e size v2 m news) (h1 : ∀ u ∈ news, u.oneCell' = true)
    (h63 : n + m ≤ maxLen) (hbytes : (n + m) * bytes ≤ 140737488355328) (hbase : base ≤ w.heap.size)
    (h : ∀ v' w', w'.ownsRow base e size v' (n + m) (xs ++ news) → w.grownBy w' v.ownBlock → wpList P ops Q rest (a.put o.dst v') w') : wpList P ops Q (o :: rest) a w := by
  unfold wpList
  rw [if_pos hw]
  exact .inl (wp_append_rows s x t ho base base2 e i z size bytes ht hi hz hsize hby hzs hsz v v2 n m xs news hs hx hown hown2 h1 h63 hbytes hbase h)

set_option maxRecDepth 100000 in
set_option maxHeartbeats 1000000 in
theorem law_joins_bad2 (a b : ByteArray) (w : World) (hE : LexEnv w) (h1 : a.size ≤ 300) (h2 : b.size ≤ 300) (ts : List Lex.Tok) (p er : Nat) (hsc : Lex.scan a.data.toList = .toks ts) (hsb : Lex.scan b.data.toList = .bad p er) :
    Calls Tryd.prog 5 #[.string a, .string b] w fun e w' => e = .returned (.bool true) ∧ Below w.heap.size w w' := by
  have HE := Lib.hid hE
  clear hE
  have ha : ∀ w0, LexEnv w0 → Calls Tryd.prog 9 #[] w0 fun e w' => e = .returned (.bool true) ∧ Below w0.heap.size w0 w' := fun w0 h => awake_any w0 h
  have HA := Lib.hid ha
  clear ha
  have hn1 : a.size ≤ 9223372036854775800 := by omega
  have hn2 : b.size ≤ 9223372036854775800 := by omega
  have hjt := join_text a b
  have hn3 : (a ++ (⟨#[10]⟩ : ByteArray) ++ b).size ≤ 9223372036854775800 := by rw [Lib.size_eq, hjt, List.length_append, List.length_cons, ← Lib.size_eq, ← Lib.size_eq]; omega
  have hj := scan_join (b := b.data.toList) (by rw [← Lib.size_eq]; exact h1) (by rw [← Lib.size_eq]; exact h2) hsc
  rw [← hjt, hsb, ← Lib.size_eq] at hj
  have hj2 : Lex.scan (a ++ (⟨#[10]⟩ : ByteArray) ++ b).data.toList = .bad (p + (a.size + 1)) er := hj
  have hpos : 0 < er := scan_badpos hsb
  have hne : ((er : Int) != 0) = true := by rw [bne_iff_ne]; omega
  have hlt : decide ((a.size : Int) < ((p + (a.size + 1) : Nat) : Int)) = true := by simp; omega
  obtain ⟨q, hq⟩ : ∃ q, p + (a.size + 1) = q := ⟨_, rfl⟩
  rw [hq] at hlt hj2
  have hq3 : a.size < q := by omega
  have HQ := Lib.hid hq3
  clear hq3
  have HSC := Lib.hid hsc
  have HSB := Lib.hid hsb
  have HJ := Lib.hid hj2
  have HN3 := Lib.hid hn3
  clear hsc hsb hj hj2 hjt hpos hn3 hq
  go_enter Tryd.func5, Tryd.ntmps5
  go_wp2_with fail
  refine (HA.out _ HE.out).mono ?_
  rintro e w1 ⟨rfl, hb1⟩
  have HE1 := Lib.hid (HE.out.keep hb1)
  go_wp2_with fail
  refine (scan_any a _ HE1.out hn1).mono ?_
  rintro e w2 hp2
  obtain ⟨g1, cap1, rfl, ht1, hg1, hg2, hb2⟩ := post_toks hp2 HSC.out
  clear hp2 ht1
  have HE2 := Lib.hid (HE1.out.keep hb2)
  go_wp2_with fail
  refine (scan_any b _ HE2.out hn2).mono ?_
  rintro e w3 hp3
  obtain ⟨rfl, hb3⟩ := post_bad hp3 HSB.out
  clear hp3
  have HE3 := Lib.hid (HE2.out.keep hb3)
  go_wp2_with fail
  refine (scan_any _ _ HE3.out HN3.out).mono ?_
  rintro e w4 hp4
  obtain ⟨rfl, hb4⟩ := post_bad hp4 HJ.out
  clear hp4
  go_wp2_with fail
  go_ret
  have s1 := hb1.size
  have s2 := hb2.size
  have s3 := hb3.size
  exact ⟨by have := HQ.out; simp; omega, ((hb1.trans (hb2.mono s1)).trans (hb3.mono (by omega))).trans (hb4.mono (by omega))⟩

set_option maxRecDepth 100000 in
set_option maxHeartbeats 1000000 in
theorem law_joins_toks (a b : ByteArray) (w : World) (hE : LexEnv w) (h1 : a.size ≤ 300) (h2 : b.size ≤ 300) (ts us : List Lex.Tok) (hsc : Lex.scan a.data.toList = .toks ts) (hsb : Lex.scan b.data.toList = .toks us) :
    Calls Tryd.prog 5 #[.string a, .string b] w fun e w' => e = .returned (.bool true) ∧ Below w.heap.size w w' := by
  obtain ⟨i0, hi, hz0, hz1, hz2⟩ := info_parts tokInfo
  have HE := Lib.hid hE
  clear hE
  have ha : ∀ w0, LexEnv w0 → Calls Tryd.prog 9 #[] w0 fun e w' => e = .returned (.bool true) ∧ Below w0.heap.size w0 w' := fun w0 h => awake_any w0 h
  have HA := Lib.hid ha
  clear ha
  have hn1 : a.size ≤ 9223372036854775800 := by omega
  have hn2 : b.size ≤ 9223372036854775800 := by omega
  have hjt := join_text a b
  have hn3 : (a ++ (⟨#[10]⟩ : ByteArray) ++ b).size ≤ 9223372036854775800 := by rw [Lib.size_eq, hjt, List.length_append, List.length_cons, ← Lib.size_eq, ← Lib.size_eq]; omega
  have hj := scan_join (b := b.data.toList) (by rw [← Lib.size_eq]; exact h1) (by rw [← Lib.size_eq]; exact h2) hsc
  rw [← hjt, hsb, ← Lib.size_eq] at hj
  obtain ⟨vs, hvs⟩ : ∃ vs, ts.dropLast ++ us.map (shiftT (a.size + 1)) = vs := ⟨_, rfl⟩
  have hj2 : Lex.scan (a ++ (⟨#[10]⟩ : ByteArray) ++ b).data.toList = .toks vs := by rw [hj, ← hvs]; rfl
  have hbare : bareL vs = bareL ts ++ bareL us := by rw [← hvs, bareL_append, bareL_shift, bareL_last hsc]
  have hlt := scan_len hsc
  have hlu := scan_len hsb
  have hlv := scan_len hj2
  have hlen : vs.length = ts.length - 1 + us.length := by rw [← hvs, List.length_append, List.length_dropLast, List.length_map]
  have htpos : 0 < ts.length := List.length_pos_iff.2 (scan_ne hsc)
  have hpos : ∀ j u, us[j]? = some u → vs[ts.length - 1 + j]? = some (shiftT (a.size + 1) u) := by
    intro j u hu
    rw [← hvs, List.getElem?_append_right (by rw [List.length_dropLast]; omega), List.length_dropLast, Nat.add_sub_cancel_left, List.getElem?_map, hu]
    rfl
  have hbt := bareL_len ts
  have hbu := bareL_len us
  have HSC := Lib.hid hsc
  have HSB := Lib.hid hsb
  have HJ := Lib.hid hj2
  have HN3 := Lib.hid hn3
  have HB := Lib.hid hbare
  have HL := Lib.hid hlen
  have HP := Lib.hid hpos
  clear hsc hsb hj hj2 hjt hn3 hvs hbare hpos hlen
  obtain ⟨n1, hn⟩ : ∃ n, ts.length = n := ⟨_, rfl⟩
  obtain ⟨n2, hm⟩ : ∃ n, us.length = n := ⟨_, rfl⟩
  obtain ⟨n3, ho⟩ : ∃ n, vs.length = n := ⟨_, rfl⟩
  have hsum : n3 = n1 - 1 + n2 := by rw [← hn, ← hm, ← ho]; exact HL.out
  have HS := Lib.hid hsum
  have HN := Lib.hid hn
  have HM := Lib.hid hm
  have HO := Lib.hid ho
  rw [hn] at hlt htpos hbt
  rw [hm] at hlu hbu
  rw [ho] at hlv
  clear hn hm ho hsum
  go_enter Tryd.func5, Tryd.ntmps5
  go_wp2_with fail
  refine (HA.out _ HE.out).mono ?_
  rintro e w1 ⟨rfl, hb1⟩
  have HE1 := Lib.hid (HE.out.keep hb1)
  go_wp2_with fail
  refine (scan_any a _ HE1.out hn1).mono ?_
  rintro e w2 hp2
  obtain ⟨g1, cap1, he, ht1, hg1, hg2, hb2⟩ := post_toks hp2 HSC.out
  rw [HN.out] at he
  subst he
  have HT1 := Lib.hid ht1
  clear hp2 ht1
  have HE2 := Lib.hid (HE1.out.keep hb2)
  go_wp2_with fail
  refine (scan_any b _ HE2.out hn2).mono ?_
  rintro e w3 hp3
  obtain ⟨g2, cap2, he, ht2, hg3, hg4, hb3⟩ := post_toks hp3 HSB.out
  rw [HM.out] at he
  subst he
  have HT2 := Lib.hid ht2
  clear hp3 ht2
  have HE3 := Lib.hid (HE2.out.keep hb3)
  go_wp2_with fail
  refine (scan_any _ _ HE3.out HN3.out).mono ?_
  rintro e w4 hp4
  obtain ⟨g3, cap3, he, ht3, hg5, hg6, hb4⟩ := post_toks hp4 HJ.out
  rw [HO.out] at he
  subst he
  have HT3 := Lib.hid ht3
  clear hp4 ht3
  have s1 := hb1.size
  have s2 := hb2.size
  have s3 := hb3.size
  have s4 := hb4.size
  have K3 : ∀ c w0, Below w4.heap.size w4 w0 → Calls Tryd.prog 14 #[.slice (some ⟨g3, 0, none⟩) n3 c] w0 fun e w' => ∃ v, e = .returned v ∧ w'.ownsRow w0.heap.size 30 4 v (bareL vs).length (toksCells (bareL vs)) ∧ Below w0.heap.size w0 w' := by
    intro c w0 h
    have h5 := bare_any g3 c vs w0 (by rw [HO.out]; omega) (by have := h.size; omega) (HT3.out.keep h hg6)
    rw [HO.out] at h5
    exact h5
  have K1 : ∀ c w0, Below w4.heap.size w4 w0 → Calls Tryd.prog 14 #[.slice (some ⟨g1, 0, none⟩) n1 c] w0 fun e w' => ∃ v, e = .returned v ∧ w'.ownsRow w0.heap.size 30 4 v (bareL ts).length (toksCells (bareL ts)) ∧ Below w0.heap.size w0 w' := by
    intro c w0 h
    have h5 := bare_any g1 c ts w0 (by rw [HN.out]; omega) (by have := h.size; omega) (((HT1.out.keep hb3 hg2).keep hb4 (by omega)).keep h (by omega))
    rw [HN.out] at h5
    exact h5
  have K2 : ∀ c w0, Below w4.heap.size w4 w0 → Calls Tryd.prog 14 #[.slice (some ⟨g2, 0, none⟩) n2 c] w0 fun e w' => ∃ v, e = .returned v ∧ w'.ownsRow w0.heap.size 30 4 v (bareL us).length (toksCells (bareL us)) ∧ Below w0.heap.size w0 w' := by
    intro c w0 h
    have h5 := bare_any g2 c us w0 (by rw [HM.out]; omega) (by have := h.size; omega) ((HT2.out.keep hb4 hg4).keep h (by omega))
    rw [HM.out] at h5
    exact h5
  have HK1 := Lib.hid K1
  have HK2 := Lib.hid K2
  have HK3 := Lib.hid K3
  clear K1 K2 K3
  go_wp2_with fail
  refine (HK3.out _ _ (Below.refl _ _)).mono ?_
  rintro e w5 ⟨v3, rfl, hv3, hb5⟩
  go_wp2_with fail
  refine (HK1.out _ _ hb5).mono ?_
  rintro e w6 ⟨v1, rfl, hv1, hb6⟩
  have s5 := hb5.size
  have s6 := hb6.size
  go_wp2_with fail
  refine (HK2.out _ _ (hb5.trans (hb6.mono s5))).mono ?_
  rintro e w7 ⟨v2, rfl, hv2, hb7⟩
  have s7 := hb7.size
  have hv3b := own_below (own_below hv3 hb6) hb7
  have hv1b := own_below hv1 hb7
  rw [HB.out] at hv3b
  have hb57 : Below w4.heap.size w4 w7 := (hb5.trans (hb6.mono s5)).trans (hb7.mono (by omega))
  have hone := toks_one (bareL us)
  go_wp2_with (at_builtin; go_loud (refine wpList_append_rows_g (by rfl) _ _ 23 rfl w5.heap.size w6.heap.size 30 i0 (.agg #[.int .i64 0, .string ⟨#[]⟩, .int .i64 0, .int .i64 0]) 4 40 Tryd.underlying23 hi hz0 hz1 hz2 rfl (by decide) v1 v2 (bareL ts).length (bareL us).length _ _ rfl rfl hv1b hv2 hone (by unfold maxLen; omega) (by omega) (by omega) ?_); intro v' w8 hv8 hgrow; rw [← toksCells_append, ← List.length_append] at hv8)
  have hv3c := hv3b.kept hgrow (by
    cases h3 : v3.ownBlock with
    | none => exact .inl rfl
    | some k3 =>
      right
      intro h1
      have a3 := (hv3.lt k3 h3).2
      have a1 := (hv1.lt k3 h1.symm).1
      omega)
  have hv3d : w8.ownsRow w4.heap.size 30 4 v3 (bareL ts ++ bareL us).length (toksCells (bareL ts ++ bareL us)) := by
    exact hv3c
  have hb78 : Below w4.heap.size w7 w8 := (Below.refl _ w7).grown hgrow (by omega) fun q hq => by have := (hv1.lt q hq).1; omega
  have hb48 := hb57.trans hb78
  have s8 := hb48.size
  refine (same_own _ _ _ _ _ _ (by rw [List.length_append]; omega) hv3d hv8).mono ?_
  rintro e w9 ⟨rfl, hb9⟩
  have hb49 := hb48.trans (hb9.mono s8)
  have hwh : Below w.heap.size w w9 := (((hb1.trans (hb2.mono s1)).trans (hb3.mono (by omega))).trans (hb4.mono (by omega))).trans (hb49.mono (by omega))
  have HT3' := Lib.hid (HT3.out.keep hb49 hg6)
  have HT2' := Lib.hid ((HT2.out.keep hb4 hg4).keep hb49 (by omega))
  go_wp2_with fail
  have s9 := hb49.size
  go_loopw [76] (fun i wr => ∃ k : Nat, k ≤ n2 ∧ i = .int .i64 k ∧ Below w9.heap.size w9 wr) (fun i _ => n2 - (intOf i).toNat)
  case atStart => exact ⟨0, Nat.zero_le _, rfl, Below.refl _ _⟩
  case round =>
    obtain ⟨k, hk, rfl, hbel⟩ := hrel
    have hsz := hbel.size
    by_cases hlt : k < n2
    · obtain ⟨u, hu⟩ : ∃ u, us[k]? = some u := ⟨_, List.getElem?_eq_getElem (by rw [HM.out]; exact hlt)⟩
      obtain ⟨x0, x1, x2, x3⟩ := (HT2'.out.keep hbel (by omega)) k u hu
      have hv := HP.out k u hu
      rw [HN.out] at hv
      obtain ⟨y0, y1, y2, y3⟩ := (HT3'.out.keep hbel (by omega)) _ _ hv
      have hle : k ≤ 20000 := by omega
      have hu3 : u.pos ≤ b.size := by
        rw [Lib.size_eq]; exact scan_pos HSB.out (List.mem_of_getElem? hu)
      have hsl := HS.out
      have q1 : IntKind.i64.wrap ((n1 : Int) - 1) = (n1 : Int) - 1 := IntWalk.i64_in _ (by omega)
      have q2 : IntKind.i64.wrap ((n1 : Int) - 1 + (k : Int)) = (n1 : Int) - 1 + (k : Int) := IntWalk.i64_in _ (by omega)
      have q3 : ((n1 : Int) - 1 + (k : Int)).toNat = n1 - 1 + k := by omega
      have q4 : IntKind.i64.wrap ((a.size : Int) + 1) = (a.size : Int) + 1 := IntWalk.i64_in _ (by omega)
      have q5 : IntKind.i64.wrap ((a.size : Int) + 1 + (u.pos : Int)) = (a.size : Int) + 1 + (u.pos : Int) := IntWalk.i64_in _ (by omega)
      have q6 : (0 : Int) ≤ (n1 : Int) - 1 + (k : Int) := by omega
      have q7 : (n1 : Int) - 1 + (k : Int) < (n3 : Int) := by omega
      have hd : (shiftT (a.size + 1) u).pos = u.pos + (a.size + 1) := rfl
      rw [hd] at y3
      have q8 : (((u.pos + (a.size + 1) : Nat) : Int) != (a.size : Int) + 1 + (u.pos : Int)) = false := by rw [bne_eq_false_iff_eq]; omega
      clear hsl hv hd
      have HU := Lib.hid hu
      clear hu
      go_wp2_with fail
      go_quiet (fail)
      go_wp2_with fail
      go_roundw
      case rel => exact ⟨k + 1, by omega, by go_num, by ((repeat' (first | (with_reducible exact hbel) | (with_reducible refine Below.drew ?_) | (with_reducible refine below_drewN ?_ _) | (with_reducible refine Below.alloc ?_ ?_ _))) <;> (first | omega | (simp <;> omega)))⟩
      case measure => simp [intOf]; omega
    · go_wp2
      go_ret
      exact ⟨rfl, hwh.trans (hbel.mono (by omega))⟩

theorem law_joins (a b : ByteArray) (w : World) (hE : LexEnv w) :
    Calls Tryd.prog 5 #[.string a, .string b] w fun e w' => e = .returned (.bool true) ∧ Below w.heap.size w w' := by
  by_cases hf : 300 < a.size ∨ (a.size ≤ 300 ∧ 300 < b.size)
  · exact law_joins_far a b w hE hf
  · cases hsc : Lex.scan a.data.toList with
    | bad p er => exact law_joins_bad a b w hE (by omega) (by omega) p er hsc
    | toks ts =>
      cases hsb : Lex.scan b.data.toList with
      | bad p er => exact law_joins_bad2 a b w hE (by omega) (by omega) ts p er hsc hsb
      | toks us => exact law_joins_toks a b w hE (by omega) (by omega) ts us hsc hsb
end Go.Proofs.YthbipapihdppmaaDoor
