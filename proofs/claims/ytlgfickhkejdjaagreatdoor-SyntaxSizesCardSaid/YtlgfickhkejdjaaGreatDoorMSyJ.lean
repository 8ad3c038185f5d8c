/-
  Several texts in one: SyRefDig, SyRefTa.
-/
import Derived.Test.YtlgfickhkejdjaaGreatDoorMSyFew
import Derived.Test.YtlgfickhkejdjaaGreatDoorMSyB
import Derived.Laws.BytesArg
import Derived.Test.YtlgfickhkejdjaaGreatDoorMSyI
import Derived.Test.YtlgfickhkejdjaaGreatDoorMSyExpr
namespace Go.Proofs.YtlgfickhkejdjaaGreatDoor
open Go.RowKit

theorem new_cell1 {W : World} {h0 : Array Obj} {cs : Array Value} {t : TypeId} {b : Nat} (hW : W.heap = h0.push (.cells cs t)) (hb : b = h0.size) (j : Nat) (u : Value) (h : cs[j]? = some u) : W.cell? ⟨b, j, none⟩ = some u := by
  unfold World.cell?
  simp [hW, hb]
  simpa using h
theorem conv1 (w : World) (m : Nat) (x : Int) (hx : x = 48 + (m : Int) % 10) : (convert 64 9 (.slice (some ⟨w.heap.size, 0, none⟩) 1 1)).run Tryz.prog (w.alloc (.cells #[.int .u8 x] 5)) = .ok (.string ⟨#[dig m]⟩) (w.alloc (.cells #[.int .u8 x] 5)) := by
  subst hx
  have hc : ∀ i, i < 1 → (w.alloc (.cells #[.int .u8 (48 + (m : Int) % 10)] 5)).cell? ⟨w.heap.size, 0 + i, none⟩ = some (.int .u8 ([48 + (m : Int) % 10].getD i 0)) := by
    intro i hi
    have h0 : i = 0 := by omega
    subst h0
    exact new_cell1 rfl rfl _ _ rfl
  rw [run_convert_bytes_arg _ 64 5 Tryz.underlying64 Tryz.underlying5 w.heap.size 0 1 1 [48 + (m : Int) % 10] rfl hc _ Tryz.underlying9]
  congr 2
theorem conv1d (w : World) (m : Nat) (x : Int) (hx : x = 48 + (m : Int) % 10) : (convert 64 9 (.slice (some ⟨w.heap.size, 0, none⟩) 1 1)).run Tryz.prog (w.alloc (.cells #[.int .u8 x] 5)).drew = .ok (.string ⟨#[dig m]⟩) (w.alloc (.cells #[.int .u8 x] 5)).drew := by
  subst hx
  have hc : ∀ i, i < 1 → (w.alloc (.cells #[.int .u8 (48 + (m : Int) % 10)] 5)).drew.cell? ⟨w.heap.size, 0 + i, none⟩ = some (.int .u8 ([48 + (m : Int) % 10].getD i 0)) := by
    intro i hi
    have h0 : i = 0 := by omega
    subst h0
    exact new_cell1 rfl rfl _ _ rfl
  rw [run_convert_bytes_arg _ 64 5 Tryz.underlying64 Tryz.underlying5 w.heap.size 0 1 1 [48 + (m : Int) % 10] rfl hc _ Tryz.underlying9]
  congr 2
theorem conv_keep {w w' : World} {m : Nat} (hb : Below (w.alloc (.cells #[.int .u8 (48 + (m : Int) % 10)] 5)).drew.heap.size (w.alloc (.cells #[.int .u8 (48 + (m : Int) % 10)] 5)).drew w') : (convert 64 9 (.slice (some ⟨w.heap.size, 0, none⟩) 1 1)).run Tryz.prog w' = .ok (.string ⟨#[dig m]⟩) w' := by
  have hc : ∀ i, i < 1 → w'.cell? ⟨w.heap.size, 0 + i, none⟩ = some (.int .u8 ([48 + (m : Int) % 10].getD i 0)) := by
    intro i hi
    have h0 : i = 0 := by omega
    subst h0
    rw [hb.cell (by simp)]
    show (w.alloc (.cells #[.int .u8 (48 + (m : Int) % 10)] 5)).cell? _ = _
    exact new_cell1 rfl rfl _ _ rfl
  rw [run_convert_bytes_arg _ 64 5 Tryz.underlying64 Tryz.underlying5 w.heap.size 0 1 1 [48 + (m : Int) % 10] rfl hc _ Tryz.underlying9]
  congr 2
theorem dec_str {n : Nat} (h : ¬ n < 10) {A : ByteArray} (hA : ⟨(dec (n / 10)).toArray⟩ = A) : A ++ ⟨#[dig n]⟩ = ⟨(dec n).toArray⟩ := by
  subst hA
  apply bytes_eq
  rw [ByteArray.data_append, Array.toList_append, dec_big h]

theorem dig_1 {w w' : World} (hb : Below w.drew.heap.size w.drew w') : Below w.heap.size w w' := (Below.refl w.heap.size w).drew.trans hb
theorem dig_2 {w w' : World} {o : Obj} (hb : Below (w.alloc o).drew.heap.size (w.alloc o).drew w') : Below w.heap.size w w' :=
  ((Below.refl w.heap.size w).alloc (Nat.le_refl _) o).drew.trans (hb.mono (by simp))
set_option maxRecDepth 100000 in
set_option maxHeartbeats 1000000 in
theorem digits_any : ∀ (n : Nat) (w : World), n ≤ 2305843009213693951 →
    Calls Tryz.prog 116 #[.int .u64 n] w fun e w' => e = .returned (.string ⟨(dec n).toArray⟩) ∧ Below w.heap.size w w' := by
  intro n
  induction n using Nat.strongRecOn with
  | ind n ih =>
    intro w hn
    by_cases h : n < 10
    · have hcv := conv1 w n (48 + (n : Int)) (by omega)
      go_enter Tryz.func116, Tryz.ntmps116
      go_wp2_with fail
      go_ret
      exact ⟨ret_str (by rw [dec_small h]), (Below.refl _ _).alloc (Nat.le_refl _) _⟩
    · have hcv := fun w => conv1 w n (48 + (n : Int) % 10) rfl
      have hcvd := fun w => conv1d w n (48 + (n : Int) % 10) rfl
      have hi := fun w0 => ih (n / 10) (by omega) w0 (by omega)
      have hl : (dec (n / 10)).length ≤ 19 := dec_len 18 _ (by omega)
      obtain ⟨A, hA⟩ : ∃ A : ByteArray, ⟨(dec (n / 10)).toArray⟩ = A := ⟨_, rfl⟩
      have hs : A.size ≤ 19 := by rw [← hA]; exact hl
      have hfin := dec_str h hA
      rw [hA] at hi
      have k1 : ¬ 9223372036854775807 < A.size + 1 := by omega
      have hq : ((n / 10 : Nat) : Int) = (n : Int) / 10 := by omega
      rw [hq] at hi
      clear hq
      have q1 : IntKind.u64.wrap ((n : Int) / 10) = (n : Int) / 10 := IntWalk.u64_in _ (by omega)
      have q2 : (n : Int).tmod 10 = (n : Int) % 10 := Int.tmod_eq_emod_of_nonneg (by omega)
      have q3 : IntKind.u64.wrap (48 + (n : Int) % 10) = 48 + (n : Int) % 10 := IntWalk.u64_in _ (by omega)
      have q4 : IntKind.u8.wrap (48 + (n : Int) % 10) = 48 + (n : Int) % 10 := by rw [IntKind.wrap_u8]; omega
      have HI := Lib.hid hi
      have HB := Lib.hid (Below.refl w.heap.size w)
      have HBd := Lib.hid (Below.refl w.heap.size w).drew
      have HF := Lib.hid hfin
      clear hi hfin hA hl ih
      go_enter Tryz.func116, Tryz.ntmps116
      go_wp2_with fail
      go_region_with (first | (go_at_call 116; refine (HI.out _).mono ?_; rintro e w' ⟨rfl, hb⟩; have hcv2 := conv_keep hb) | (go_at_call 116; refine (HI.out _).mono ?_; rintro e w' ⟨rfl, hb⟩))
      all_goals
        (first | have hbf := dig_1 (w := w) hb | have hbf := dig_2 (w := w) hb)
        clear hb
        go_wp2_with fail
        go_ret
        first
          | exact ⟨ret_str HF.out, hbf⟩
          | exact ⟨ret_str HF.out, hbf.alloc hbf.size _⟩


set_option maxRecDepth 100000 in
set_option maxHeartbeats 1000000 in
theorem decimal_any (n : Int) (w : World) (h0 : 0 ≤ n) (h1 : n ≤ 2305843009213693951) :
    Calls Tryz.prog 79 #[.int .i64 n] w fun e w' => e = .returned (.string ⟨(dec n.toNat).toArray⟩) ∧ Below w.heap.size w w' := by
  have K := digits_any n.toNat w (by omega)
  rw [Int.toNat_of_nonneg h0] at K
  have HK := Lib.hid K
  have hneg : ¬ n < 0 := by omega
  have q1 : IntKind.u64.wrap n = n := IntWalk.u64_in _ (by omega)
  obtain ⟨A, hA⟩ : ∃ A : ByteArray, ⟨(dec n.toNat).toArray⟩ = A := ⟨_, rfl⟩
  rw [hA] at HK ⊢
  clear K h0 h1 hA
  go_enter Tryz.func79, Tryz.ntmps79
  go_wp2_with fail
  refine HK.out.mono ?_
  rintro e w' ⟨rfl, hb⟩
  go_wp2_with fail
  go_ret
  exact ⟨rfl, hb⟩
end Go.Proofs.YtlgfickhkejdjaaGreatDoor

namespace Go.Proofs.YtlgfickhkejdjaaGreatDoor
open Go.RowKit Go.Maps

/-- the contract of text at expressions of a depth -/
def RtC (d : Nat) : Prop := ∀ (e : Tr.E) (p : Option Addr) (N c : Nat) (W : World), e.deep ≤ d → Tr.validE e = true → e.args.length = N → SlE W (.slice p N c) e.args → (Sy.text e).length ≤ 1000000000 →
  Calls Tryz.prog 44 #[exprV e (.slice p N c)] W fun r w' => r = .returned (.string ⟨(Sy.text e).toArray⟩) ∧ Below W.heap.size W w'
theorem mk_app (a b : List UInt8) : (⟨a.toArray⟩ : ByteArray) ++ ⟨b.toArray⟩ = ⟨(a ++ b).toArray⟩ := by
  apply bytes_eq
  rw [ByteArray.data_append, Array.toList_append]
theorem mk_size (a : List UInt8) : (⟨a.toArray⟩ : ByteArray).size = a.length := rfl

set_option maxRecDepth 100000 in
set_option maxHeartbeats 4000000 in
theorem refIn_of {d : Nat} (hC : RtC d) (e : Tr.E) (p : Option Addr) (N c req : Nat) (w : World) (hd : e.deep ≤ d) (hv : Tr.validE e = true) (hN : e.args.length = N) (hS : SlE w (.slice p N c) e.args) (hl : (Sy.text e).length ≤ 1000000000) :
    Calls Tryz.prog 80 #[exprV e (.slice p N c), .int .i64 req] w fun r w' => r = .returned (.string ⟨(Sy.par req (Sy.level e, Sy.text e)).toArray⟩) ∧ Below w.heap.size w w' := by
  have ho := valid_op hv
  have KT0 : Hid (∀ W, Below w.heap.size w W → Calls Tryz.prog 44 #[exprV e (.slice p N c)] W fun r w' => r = .returned (.string ⟨(Sy.text e).toArray⟩) ∧ Below W.heap.size W w') := fun W hb => hC e p N c W hd hv hN (hS.keep hb) hl
  obtain ⟨A, hA⟩ : ∃ A : ByteArray, ⟨(Sy.text e).toArray⟩ = A := ⟨_, rfl⟩
  have hAl : A.size ≤ 1000000000 := by rw [← hA]; exact hl
  have hpar : (⟨(Sy.par req (Sy.level e, Sy.text e)).toArray⟩ : ByteArray) = if Sy.level e < req then ⟨#[40]⟩ ++ A ++ ⟨#[41]⟩ else A := by
    unfold Sy.par
    simp only []
    split
    · rw [← hA]
      show _ = (⟨([40]).toArray⟩ : ByteArray) ++ _ ++ ⟨([41]).toArray⟩
      rw [mk_app, mk_app]
    · rw [← hA]
  obtain ⟨LV, hLV⟩ : ∃ q, Sy.level e = q := ⟨_, rfl⟩
  rw [hA] at KT0
  rw [hpar, hLV]
  have hlv : LV ≤ 9 := by
    rw [← hLV]
    obtain ⟨k, o, i, nm, a, ls⟩ := e
    show Sy.levelK k o a ≤ 9
    unfold Sy.levelK Sy.opLevel
    repeat' split
    all_goals omega
  obtain ⟨k, o, i, nm, a1, ls⟩ := e
  have hbx := below_box w (.cells #[.int .i64 k, .int .i64 o, .int .i64 i, .string nm, .bool a1, .slice p N c] 24)
  have hcv := (MapKept.heap_alloc w (.cells #[.int .i64 k, .int .i64 o, .int .i64 i, .string nm, .bool a1, .slice p N c] 24)).1
  obtain ⟨w1, hw1⟩ : ∃ q, q = w.alloc (.cells #[.int .i64 k, .int .i64 o, .int .i64 i, .string nm, .bool a1, .slice p N c] 24) := ⟨_, rfl⟩
  rw [← hw1] at hbx hcv
  have KL := refLevel_any (.mk k o i nm a1 ls) p N c w1 ho
  rw [hLV] at KL
  unfold exprV at KL KT0 ⊢
  simp only [Tr.E.kind, Tr.E.op, Tr.E.int, Tr.E.name, Tr.E.at_] at KL KT0 ⊢
  have KLV := Lib.hid KL
  have HW1 := Lib.hid hw1
  have HB1 := Lib.hid hbx
  have HC1 := Lib.hid hcv
  have z0 := cell_of_blkP HC1.out (j := 0) (u := .int .i64 k) rfl
  have z1 := cell_of_blkP HC1.out (j := 1) (u := .int .i64 o) rfl
  have z2 := cell_of_blkP HC1.out (j := 2) (u := .int .i64 i) rfl
  have z3 := cell_of_blkP HC1.out (j := 3) (u := .string nm) rfl
  have z4 := cell_of_blkP HC1.out (j := 4) (u := .bool a1) rfl
  have z5 := cell_of_blkP HC1.out (j := 5) (u := .slice p N c) rfl
  have k1 : ¬ 9223372036854775807 < 1 + A.size := by omega
  have k2 : ¬ 9223372036854775807 < 1 + A.size + 1 := by omega
  clear hC hd hv hN hS hl hA ho hpar hLV hw1 hbx hcv KL
  by_cases hlt : LV < req
  · have hlt2 : (LV : Int) < (req : Int) := by omega
    rw [if_pos hlt]
    go_enter Tryz.func80, Tryz.ntmps80
    go_wp2_with fail
    rw [← HW1.out]
    refine KLV.out.mono ?_
    rintro e' w2 ⟨rfl, hw2⟩
    have hb2 : Below w1.heap.size w1 w2 := by rw [hw2]; exact below_box _ _
    have HB2 := Lib.hid (below_next HB1.out hb2)
    have HC2 := Lib.hid ((hb2.block _ (Array.getElem?_eq_some_iff.1 HC1.out).1).trans HC1.out)
    have KT := Lib.hid (KT0.out _ HB2.out)
    clear hw2 hb2 HW1 z0 z1 z2 z3 z4 z5
    have z0 := cell_of_blkP HC2.out (j := 0) (u := .int .i64 k) rfl
    have z1 := cell_of_blkP HC2.out (j := 1) (u := .int .i64 o) rfl
    have z2 := cell_of_blkP HC2.out (j := 2) (u := .int .i64 i) rfl
    have z3 := cell_of_blkP HC2.out (j := 3) (u := .string nm) rfl
    have z4 := cell_of_blkP HC2.out (j := 4) (u := .bool a1) rfl
    have z5 := cell_of_blkP HC2.out (j := 5) (u := .slice p N c) rfl
    go_wp2_with fail
    refine KT.out.mono ?_
    rintro e' w3 ⟨rfl, hb3⟩
    have HB3 := Lib.hid (below_next HB2.out hb3)
    clear hb3
    go_wp2_with fail
    go_ret
    exact ⟨rfl, HB3.out⟩
  · have hlt2 : ¬ (LV : Int) < (req : Int) := by omega
    rw [if_neg hlt]
    go_enter Tryz.func80, Tryz.ntmps80
    go_wp2_with fail
    rw [← HW1.out]
    refine KLV.out.mono ?_
    rintro e' w2 ⟨rfl, hw2⟩
    have hb2 : Below w1.heap.size w1 w2 := by rw [hw2]; exact below_box _ _
    have HB2 := Lib.hid (below_next HB1.out hb2)
    have HC2 := Lib.hid ((hb2.block _ (Array.getElem?_eq_some_iff.1 HC1.out).1).trans HC1.out)
    have KT := Lib.hid (KT0.out _ HB2.out)
    clear hw2 hb2 HW1 z0 z1 z2 z3 z4 z5
    have z0 := cell_of_blkP HC2.out (j := 0) (u := .int .i64 k) rfl
    have z1 := cell_of_blkP HC2.out (j := 1) (u := .int .i64 o) rfl
    have z2 := cell_of_blkP HC2.out (j := 2) (u := .int .i64 i) rfl
    have z3 := cell_of_blkP HC2.out (j := 3) (u := .string nm) rfl
    have z4 := cell_of_blkP HC2.out (j := 4) (u := .bool a1) rfl
    have z5 := cell_of_blkP HC2.out (j := 5) (u := .slice p N c) rfl
    go_wp2_with fail
    refine KT.out.mono ?_
    rintro e' w3 ⟨rfl, hb3⟩
    have HB3 := Lib.hid (below_next HB2.out hb3)
    clear hb3
    go_wp2_with fail
    go_ret
    exact ⟨rfl, HB3.out⟩

set_option maxRecDepth 100000 in
set_option maxHeartbeats 4000000 in
theorem refList_of {d : Nat} (hC : RtC d) (ls : List Tr.E) (p : Option Addr) (N c : Nat) (w : World) (hd : ∀ x ∈ ls, x.deep ≤ d) (hv : ∀ x ∈ ls, Tr.validE x = true) (hN : ls.length = N) (hS : SlE w (.slice p N c) ls) (hl : (Sy.commas (ls.map Sy.text)).length ≤ 1000000000) :
    Calls Tryz.prog 81 #[.slice p N c] w fun r w' => r = .returned (.string ⟨(Sy.commas (ls.map Sy.text)).toArray⟩) ∧ Below w.heap.size w w' := by
  have hn6 : N ≤ 9223372036854775807 := by
    have := hS.len
    rw [hN] at this
    unfold maxLen at this
    omega
  have HC := Lib.hid hC
  have HD := Lib.hid hd
  have HV := Lib.hid hv
  have HN := Lib.hid hN
  have HS := Lib.hid hS
  have HL := Lib.hid hl
  clear hC hd hv hN hS hl
  go_enter Tryz.func81, Tryz.ntmps81
  go_wp2_with fail
  go_loopg [3, 4] N (fun g s3 s4 wr => ∃ j : Nat, s4 = .int .i64 j ∧ j ≤ N ∧ g = N - j ∧ s3 = .string ⟨(Sy.commas ((ls.take j).map Sy.text)).toArray⟩ ∧ Hid (Below w.heap.size w wr))
  case atStart => exact ⟨0, rfl, Nat.zero_le _, rfl, rfl, Below.refl _ _⟩
  case round =>
    obtain ⟨j, rfl, hj, rfl, rfl, HB⟩ := hrel
    by_cases hlt : j < N
    · obtain ⟨x, hx⟩ : ∃ x, ls[j]? = some x := ⟨_, List.getElem?_eq_getElem (by rw [HN.out]; exact hlt)⟩
      obtain ⟨b', o', aa, rfl, _, hc, hbd, hsl⟩ := HS.out.get hx
      obtain ⟨y0, y1, y2, y3, y4, y5⟩ := hc.keep HB.out
      obtain ⟨pa, ca, rfl, _⟩ := hsl.form
      obtain ⟨AN, hAN⟩ : ∃ q, x.args.length = q := ⟨_, rfl⟩
      rw [hAN] at hsl y5
      have hm := List.mem_of_getElem? hx
      have htk : (ls.take (j + 1)).map Sy.text = (ls.take j).map Sy.text ++ [Sy.text x] := by rw [List.take_add_one, hx, List.map_append]; rfl
      have hle := Sy.commas_take (ls.map Sy.text) (j + 1)
      rw [← List.map_take, htk] at hle
      have hle2 : (Sy.text x).length ≤ (Sy.commas ((ls.take j).map Sy.text ++ [Sy.text x])).length := by
        by_cases h0 : (ls.take j).map Sy.text = []
        · rw [h0]; exact Nat.le_refl _
        · rw [Sy.commas_snoc _ _ h0, List.length_append, List.length_append]; omega
      have hLL := HL.out
      have KT := Lib.hid (HC.out x pa AN ca wr (HD.out x hm) (HV.out x hm) hAN (hsl.keep HB.out) (by omega))
      obtain ⟨A, hA⟩ : ∃ A : ByteArray, ⟨(Sy.text x).toArray⟩ = A := ⟨_, rfl⟩
      obtain ⟨S, hS⟩ : ∃ A : ByteArray, ⟨(Sy.commas ((ls.take j).map Sy.text)).toArray⟩ = A := ⟨_, rfl⟩
      have hAl : A.size ≤ 1000000000 := by rw [← hA]; show (Sy.text x).length ≤ _; omega
      have hSl : S.size ≤ 1000000000 := by
        have := Sy.commas_take (ls.map Sy.text) j
        rw [← List.map_take] at this
        rw [← hS]; show (Sy.commas ((ls.take j).map Sy.text)).length ≤ _; omega
      have hnew : (⟨(Sy.commas ((ls.take (j + 1)).map Sy.text)).toArray⟩ : ByteArray) = if j = 0 then S ++ A else S ++ ⟨#[44, 32]⟩ ++ A := by
        rw [htk, ← hA, ← hS]
        split
        · next h0 =>
          subst h0
          rw [mk_app]
          rfl
        · next h0 =>
          have h1 : (ls.take j).map Sy.text ≠ [] := by
            intro h2
            have h3 := congrArg List.length h2
            rw [List.length_map, List.length_take, HN.out] at h3
            simp only [List.length_nil] at h3
            omega
          rw [Sy.commas_snoc _ _ h1]
          show _ = _ ++ (⟨([44, 32]).toArray⟩ : ByteArray) ++ _
          rw [mk_app, mk_app]
      rw [hA] at KT
      unfold exprV at KT
      have HNEW := Lib.hid hnew
      have b3 : (j : Int) < (N : Int) := by omega
      have k1 : ¬ 9223372036854775807 < S.size + A.size := by omega
      have k2 : ¬ 9223372036854775807 < S.size + 2 := by omega
      have k3 : ¬ 9223372036854775807 < S.size + 2 + A.size := by omega
      have hl1 := cell_lt' y0
      rw [hS]
      clear hx hc hbd hsl hAN hm htk hle hle2 hLL hA hS hAl hSl hnew
      by_cases h0 : j = 0
      · have g0 : ¬ (0 : Int) < (j : Int) := by omega
        rw [if_pos h0] at HNEW
        clear h0
        go_wp2_with fail
        refine KT.out.mono ?_
        rintro e' w3 ⟨rfl, hb3⟩
        have HB3 := Lib.hid (below_next HB.out hb3)
        clear hb3 y0 y1 y2 y3 y4 y5 hl1
        go_wp2_with fail
        go_roundg (N - (j + 1))
        case measure => omega
        case rel => exact ⟨j + 1, by go_num, by omega, rfl, by rw [HNEW.out], HB3⟩
      · have g0 : (0 : Int) < (j : Int) := by omega
        rw [if_neg h0] at HNEW
        clear h0
        go_wp2_with fail
        refine KT.out.mono ?_
        rintro e' w3 ⟨rfl, hb3⟩
        have HB3 := Lib.hid (below_next HB.out hb3)
        clear hb3 y0 y1 y2 y3 y4 y5 hl1
        go_wp2_with fail
        go_roundg (N - (j + 1))
        case measure => omega
        case rel => exact ⟨j + 1, by go_num, by omega, rfl, by rw [HNEW.out], HB3⟩
    · obtain rfl : j = N := by omega
      have hfull : ls.take j = ls := List.take_of_length_le (by rw [HN.out]; exact Nat.le_refl _)
      rw [hfull]
      clear hfull
      go_wp2_with fail
      go_ret
      exact ⟨rfl, HB.out⟩
end Go.Proofs.YtlgfickhkejdjaaGreatDoor
