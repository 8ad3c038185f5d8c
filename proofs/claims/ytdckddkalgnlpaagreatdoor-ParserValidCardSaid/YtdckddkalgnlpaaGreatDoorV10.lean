/-
  Several texts in one: PaProgB, PaProgC, PbRow.
-/
import Derived.Test.YtdckddkalgnlpaaGreatDoorV9
import Derived.Maps.OwnSet
import Derived.StringKeys
import Derived.Deep.LoopGhost
import Derived.Laws.AppendOwnNone
namespace Go.Proofs.YtdckddkalgnlpaaGreatDoor
open Go.RowKit Go.Maps Pw
section
variable {L : List Lex.Tok} {n tbk tc P k : Nat} {w : World}
set_option maxRecDepth 100000 in
set_option maxHeartbeats 2000000 in
theorem name_yes (hp : PS L n tbk tc P k w) (hL : Pa.TkL L n) {t : Lex.Tok} (ht : L[k]? = some t) (hlt : k < n) (h : t.kind = 2) :
 Calls Tryz.prog 109 #[.pointer (some ⟨P, 0, none⟩)] w fun e w' => e = .returned (.string ⟨t.text.toArray⟩) ∧ w.grownBy w' (some P) ∧ PS L n tbk tc P (k + 1) w' := by
 have K := word_yes hp hL ht hlt
 rw [h] at K
 have K := Lib.hid K
 clear hp hL ht hlt h
 go_enter Tryz.func109, Tryz.ntmps109
 go_wp2_with fail
 refine K.out.mono ?_
 rintro e w1 ⟨rfl, h1, h2⟩
 have H1 := Lib.hid h1
 have H2 := Lib.hid h2
 clear h1 h2
 go_wp2_with fail
 go_ret
 exact ⟨rfl, H1.out, H2.out⟩
set_option maxRecDepth 100000 in
set_option maxHeartbeats 2000000 in
theorem name_no (hp : PS L n tbk tc P k w) (hL : Pa.TkL L n) {t : Lex.Tok} (ht : L[k]? = some t) (h : t.kind ≠ 2) :
 Calls Tryz.prog 109 #[.pointer (some ⟨P, 0, none⟩)] w fun e w' => e = .panicked (failV t.pos) ∧ Below w.heap.size w w' := by
 have K := Lib.hid (word_no hp hL ht 2 h)
 clear hp hL ht h
 go_enter Tryz.func109, Tryz.ntmps109
 go_wp2_with fail
 refine K.out.mono ?_
 rintro e w1 ⟨rfl, h1⟩
 have H1 := Lib.hid h1
 clear h1
 go_wp2_with fail
 exact ⟨rfl, rfl, H1.out⟩
set_option maxRecDepth 100000 in
set_option maxHeartbeats 2000000 in
theorem expect_yes (hp : PS L n tbk tc P k w) (hL : Pa.TkL L n) (s : ByteArray) (hs : s.data.toList ≠ []) (h : Pa.is s.data.toList (Pa.rest L n k) = true) (g : Nat) (hg : w.cell? ⟨g, 0, none⟩ = some (.string s)) :
 Calls Tryz.prog 107 #[.pointer (some ⟨P, 0, none⟩), .slice (some ⟨g, 0, none⟩) 1 1] w fun e w' => e = .returned (.tuple #[]) ∧ w.grownBy w' (some P) ∧ PS L n tbk tc P (k + 1) w' := by
 have HT : Hid (∀ W, Below w.heap.size w W → Calls Tryz.prog 108 #[.pointer (some ⟨P, 0, none⟩), .string s] W fun e w' => e = .returned (.bool true) ∧ W.grownBy w' (some P) ∧ PS L n tbk tc P (k + 1) w') := fun W hb => take_yes (hp.below hb) hL s hs h
 have HG := Lib.hid hg
 have hgl := cell_lt' hg
 have HPS := Lib.hid hp
 clear hp hL hs h
 go_enter Tryz.func107, Tryz.ntmps107
 go_wp2_with fail
 go_loopg [5, 8] 1 (fun gg s5 s8 wr => ∃ j : Nat, s8 = .int .i64 j ∧ j ≤ 1 ∧ gg = 1 - j ∧ Hid (j = 0 → wr = w) ∧ Hid (PS L n tbk tc P (k + j) wr) ∧ Hid (w.grownBy wr (some P)))
 case atStart => exact ⟨0, rfl, by omega, rfl, Lib.hid fun _ => rfl, HPS, Lib.hid (gr_refl _ _)⟩
 case round =>
  obtain ⟨j, rfl, hj, rfl, HW, HP1, HG1⟩ := hrel
  by_cases hlt : j < 1
  ·obtain rfl : j = 0 := by omega
   obtain rfl := HW.out rfl
   clear hj hlt
   have hg := HG.out
   go_wp2_with fail
   refine (HT.out _ (Below.refl _ _)).mono ?_
   rintro e w1 ⟨rfl, h1, h2⟩
   have H1 := Lib.hid h1
   have H2 := Lib.hid h2
   clear h1 h2 hg
   go_wp2_with fail
   go_roundg 0
   case measure => omega
   case rel => exact ⟨1, by go_num, by omega, rfl, Lib.hid fun h => absurd h (by decide), H2, H1⟩
  ·obtain rfl : j = 1 := by omega
   clear hj hlt
   go_wp2_with fail
   go_end0
   exact ⟨rfl, HG1.out, HP1.out⟩
set_option maxRecDepth 100000 in
set_option maxHeartbeats 2000000 in
theorem expect_no (hp : PS L n tbk tc P k w) (hL : Pa.TkL L n) (s : ByteArray) (hs : s.data.toList ≠ []) (h : Pa.is s.data.toList (Pa.rest L n k) = false) (g : Nat) (hg : w.cell? ⟨g, 0, none⟩ = some (.string s)) {t : Lex.Tok} (ht : L[k]? = some t) :
 Calls Tryz.prog 107 #[.pointer (some ⟨P, 0, none⟩), .slice (some ⟨g, 0, none⟩) 1 1] w fun e w' => e = .panicked (failV t.pos) ∧ Below w.heap.size w w' := by
 have HT : Hid (∀ W, Below w.heap.size w W → Calls Tryz.prog 108 #[.pointer (some ⟨P, 0, none⟩), .string s] W fun e w' => e = .returned (.bool false) ∧ Below W.heap.size W w') := fun W hb => take_no (hp.below hb) hL s hs h
 have HG := Lib.hid hg
 have hgl := cell_lt' hg
 have HF : Hid (∀ W, Below w.heap.size w W → Calls Tryz.prog 58 #[.pointer (some ⟨P, 0, none⟩)] W fun e w' => e = .panicked (failV t.pos) ∧ Below W.heap.size W w') := fun W hb => fail_any (hp.below hb) hL ht
 have HPS := Lib.hid hp
 clear hp hL hs h ht
 go_enter Tryz.func107, Tryz.ntmps107
 go_wp2_with fail
 go_loopg [5, 8] 1 (fun gg s5 s8 wr => s8 = .int .i64 (0 : Nat) ∧ gg = 1 ∧ Hid (wr = w))
 case atStart => exact ⟨rfl, rfl, Lib.hid rfl⟩
 case round =>
  obtain ⟨rfl, rfl, HW⟩ := hrel
  obtain rfl := HW.out
  have hg := HG.out
  go_wp2_with fail
  refine (HT.out _ (Below.refl _ _)).mono ?_
  rintro e w1 ⟨rfl, h1⟩
  have H1 := Lib.hid h1
  clear h1 hg
  go_wp2_with fail
  refine (HF.out _ H1.out).mono ?_
  rintro e w2 ⟨rfl, h2⟩
  go_wp2_with fail
  exact ⟨rfl, rfl, below_next H1.out h2⟩
set_option maxRecDepth 100000 in
set_option maxHeartbeats 2000000 in
theorem binaryP_any (op : Int) (x y : Tr.E) (a b : Value) (w : World) :
 Calls Tryz.prog 122 #[.int .i64 op, exprV x a, exprV y b] w fun e w' => ∃ g, e = .returned (.agg #[.int .i64 10, .int .i64 op, .int .i64 0, .string ⟨#[]⟩, .bool false, .slice (some ⟨g, 0, none⟩) 2 2]) ∧ w.heap.size ≤ g ∧ w'.heap[g]? = some (.cells #[.int .i64 x.kind, .int .i64 x.op, .int .i64 x.int, .string x.name, .bool x.at_, a, .int .i64 y.kind, .int .i64 y.op, .int .i64 y.int, .string y.name, .bool y.at_, b] 33 (0, 0)) ∧ Below w.heap.size w w' := by
 unfold exprV
 go_enter Tryz.func122, Tryz.ntmps122
 go_wp2
 have h3 : ((((w.alloc (.cells #[.int .i64 x.kind, .int .i64 x.op, .int .i64 x.int, .string x.name, .bool x.at_, a] 33)).alloc (.cells #[.int .i64 y.kind, .int .i64 y.op, .int .i64 y.int, .string y.name, .bool y.at_, b] 33)).alloc (.cells #[.int .i64 10, .int .i64 op, .int .i64 0, .string ⟨#[]⟩, .bool false, .slice (some ⟨w.heap.size + 1 + 1 + 1, 0, none⟩) 2 2] 33)).alloc (.cells #[.int .i64 x.kind, .int .i64 x.op, .int .i64 x.int, .string x.name, .bool x.at_, a, .int .i64 y.kind, .int .i64 y.op, .int .i64 y.int, .string y.name, .bool y.at_, b] 33)).heap[w.heap.size + 1 + 1]? = some (.cells #[.int .i64 10, .int .i64 op, .int .i64 0, .string ⟨#[]⟩, .bool false, .slice (some ⟨w.heap.size + 1 + 1 + 1, 0, none⟩) 2 2] 33 (0, 0)) := (Below.heap_alloc _ _ _ (by simp only [World.size_alloc]; omega)).trans (new_at (by simp))
 refine bodyPost_ret (v := .agg #[.int .i64 10, .int .i64 op, .int .i64 0, .string ⟨#[]⟩, .bool false, .slice (some ⟨w.heap.size + 1 + 1 + 1, 0, none⟩) 2 2]) (results_cell_row Tryz.results122 _ _ (w.heap.size + 1 + 1) _ _ _ _ rfl h3 Tryz.underlying33 rfl (by kernel_rfl)) rfl ⟨_, rfl, by omega, new_at (by simp), ?_⟩
 exact (((below_box w _).alloc (by simp) _).alloc (by simp <;> omega) _).alloc (by simp <;> omega) _
def symB (o : Int) : ByteArray := ⟨(Sy.sym o).toArray⟩
def skl (s : ByteArray) : Lit := .string s.data.toList
theorem keyStr : Keyed Tryz.prog 9 := string_keyed Tryz.underlying9
theorem keyOfStr (s : ByteArray) (hs : s.size ≤ maxLen) : keyOf Tryz.prog 9 (.string s) = some (skl s) := WideMaps.keyOf_string_mk Tryz.underlying9 hs
def opD : Nat → DataW Unit
 | 0 => DataW.map []
 | o + 1 => (opD o).put (skl (symB o)) (.lit (.int .i64 o))
theorem intZero (w : World) : (zeroValue 3).run Tryz.prog w = .ok (.int .i64 0) w := by kernel_rfl
theorem wpList_insert_ownP {H : Type} {P : Program} (w : World) {ops : Array Oper} {rest : List Oper} {o : Oper} {a : Act} {Q : Exit → Act → World → Prop}
 (hg : o.guard = none) (m x v : Operand) (t : TypeId) (hop : o.op = Op.insert t m x v)
 (k e : TypeId) (K : Keyed P k) (ht : P.underlying t = some (.map k e)) (R : Value → Option (DataW H × List MemPlace)) (b n : Nat) (D : DataW H)
 (hm : a.eval m = .map (some b)) (hown : w.ownsMap P k R b n D) (hn : n < maxLen) (key val : Value) (kl : Lit) (hx : a.eval x = key) (hv : a.eval v = val) (hkey : keyOf P k key = some kl)
 (d : DataW H) (ps : List MemPlace) (hval : R val = some (d, ps))
 (hK : ∀ w', w'.ownsMap P k R b (n + 1) (D.put kl d) → w.grownBy w' (some b) → wpList P ops Q rest (a.put o.dst undef) w') :
 wpList P ops Q (o :: rest) a w := by
 refine wpList_plain hg fun K' hK' => ?_
 obtain ⟨w', hrun, r1, r2⟩ := hown.update K ht hn hkey hval
 unfold Oper.wp
 simp [execOp, hop, hm, hx, hv, hrun, Result.andThen]
 exact hK' _ _ (hK w' r1 r2)
theorem op_at0 : (opD 13).atKey (skl (symB 0)) (.lit (.int .i64 0)) = .lit (.int .i64 0) := by kernel_rfl
theorem op_at1 : (opD 13).atKey (skl (symB 1)) (.lit (.int .i64 0)) = .lit (.int .i64 1) := by kernel_rfl
theorem op_at2 : (opD 13).atKey (skl (symB 2)) (.lit (.int .i64 0)) = .lit (.int .i64 2) := by kernel_rfl
theorem op_at3 : (opD 13).atKey (skl (symB 3)) (.lit (.int .i64 0)) = .lit (.int .i64 3) := by kernel_rfl
theorem op_at4 : (opD 13).atKey (skl (symB 4)) (.lit (.int .i64 0)) = .lit (.int .i64 4) := by kernel_rfl
theorem op_at5 : (opD 13).atKey (skl (symB 5)) (.lit (.int .i64 0)) = .lit (.int .i64 5) := by kernel_rfl
theorem op_at6 : (opD 13).atKey (skl (symB 6)) (.lit (.int .i64 0)) = .lit (.int .i64 6) := by kernel_rfl
theorem op_at7 : (opD 13).atKey (skl (symB 7)) (.lit (.int .i64 0)) = .lit (.int .i64 7) := by kernel_rfl
theorem op_at8 : (opD 13).atKey (skl (symB 8)) (.lit (.int .i64 0)) = .lit (.int .i64 8) := by kernel_rfl
theorem op_at9 : (opD 13).atKey (skl (symB 9)) (.lit (.int .i64 0)) = .lit (.int .i64 9) := by kernel_rfl
theorem op_at10 : (opD 13).atKey (skl (symB 10)) (.lit (.int .i64 0)) = .lit (.int .i64 10) := by kernel_rfl
theorem op_at11 : (opD 13).atKey (skl (symB 11)) (.lit (.int .i64 0)) = .lit (.int .i64 11) := by kernel_rfl
theorem op_at12 : (opD 13).atKey (skl (symB 12)) (.lit (.int .i64 0)) = .lit (.int .i64 12) := by kernel_rfl
theorem op_cases {o : Nat} (h : o ≤ 12) : o = 0 ∨ o = 1 ∨ o = 2 ∨ o = 3 ∨ o = 4 ∨ o = 5 ∨ o = 6 ∨ o = 7 ∨ o = 8 ∨ o = 9 ∨ o = 10 ∨ o = 11 ∨ o = 12 := by omega
theorem op_at (o : Nat) (ho : o ≤ 12) : (opD 13).atKey (skl (symB o)) (.lit (.int .i64 0)) = .lit (.int .i64 o) := by
 rcases op_cases ho with rfl | rfl | rfl | rfl | rfl | rfl | rfl | rfl | rfl | rfl | rfl | rfl | rfl
 ·exact op_at0
 ·exact op_at1
 ·exact op_at2
 ·exact op_at3
 ·exact op_at4
 ·exact op_at5
 ·exact op_at6
 ·exact op_at7
 ·exact op_at8
 ·exact op_at9
 ·exact op_at10
 ·exact op_at11
 ·exact op_at12
def OpsAt (W : World) (M : Nat) : Prop := W.ownsMap Tryz.prog 9 (plainElem Tryz.prog 3) M 13 (opD 13)
theorem symB_size {o : Nat} (h : o ≤ 12) : (symB o).size ≤ 3 := by
 rcases op_cases h with rfl | rfl | rfl | rfl | rfl | rfl | rfl | rfl | rfl | rfl | rfl | rfl | rfl <;> decide
theorem symB_ne {o : Nat} (h : o ≤ 12) : (symB o).data.toList ≠ [] := by
 rcases op_cases h with rfl | rfl | rfl | rfl | rfl | rfl | rfl | rfl | rfl | rfl | rfl | rfl | rfl <;> decide
set_option maxRecDepth 100000 in
theorem ops_look {W : World} {M : Nat} (h : OpsAt W M) (o : Nat) (ho : o ≤ 12) : (Instr.lookup 170 (.map (some M)) (.string (symB o)) false).run Tryz.prog W = .ok (.int .i64 o) W := by
 obtain ⟨c, hrun, hat, _⟩ := World.ownsMap.lookup_int h keyStr Tryz.underlying170 Tryz.underlying3 (intZero W) (keyOfStr (symB o) (Nat.le_trans (symB_size ho) (by decide)))
 have h2 := (op_at o ho).symm.trans hat
 injection h2 with h2
 injection h2 with _ h2
 rw [hrun, ← h2]
set_option maxRecDepth 100000 in
set_option maxHeartbeats 4000000 in
theorem operators_any (w : World) :
 Calls Tryz.prog 157 #[] w fun e w' => ∃ M, e = .returned (.map (some M)) ∧ OpsAt w' M ∧ Below w.heap.size w w' := by
 have hmk := @run_makeMap Tryz.prog
 go_enter Tryz.func157, Tryz.ntmps157
 go_wp2_with (first
  | (refine wpList_insert_ownP _ rfl _ _ _ 170 rfl 9 3 keyStr Tryz.underlying170 (plainElem Tryz.prog 3) w.heap.size 12 (opD 12) rfl HO12.out (by unfold maxLen; omega) (.string ⟨#[111, 114]⟩) (.int .i64 12) (skl (symB 12)) rfl rfl (keyOfStr ⟨#[111, 114]⟩ (by decide)) (.lit (.int .i64 12)) [] (plainElem_int Tryz.underlying3 (by decide)) ?_; intro w13 ho hg; have HO13 : Hid (w13.ownsMap Tryz.prog 9 (plainElem Tryz.prog 3) w.heap.size 13 (opD 13)) := Lib.hid ho; have HG13 := Lib.hid (gr_new HG12.out hg (Nat.le_refl _)); clear ho hg)
  | (refine wpList_insert_ownP _ rfl _ _ _ 170 rfl 9 3 keyStr Tryz.underlying170 (plainElem Tryz.prog 3) w.heap.size 11 (opD 11) rfl HO11.out (by unfold maxLen; omega) (.string ⟨#[97, 110, 100]⟩) (.int .i64 11) (skl (symB 11)) rfl rfl (keyOfStr ⟨#[97, 110, 100]⟩ (by decide)) (.lit (.int .i64 11)) [] (plainElem_int Tryz.underlying3 (by decide)) ?_; intro w12 ho hg; have HO12 : Hid (w12.ownsMap Tryz.prog 9 (plainElem Tryz.prog 3) w.heap.size 12 (opD 12)) := Lib.hid ho; have HG12 := Lib.hid (gr_new HG11.out hg (Nat.le_refl _)); clear ho hg)
  | (refine wpList_insert_ownP _ rfl _ _ _ 170 rfl 9 3 keyStr Tryz.underlying170 (plainElem Tryz.prog 3) w.heap.size 10 (opD 10) rfl HO10.out (by unfold maxLen; omega) (.string ⟨#[62, 61]⟩) (.int .i64 10) (skl (symB 10)) rfl rfl (keyOfStr ⟨#[62, 61]⟩ (by decide)) (.lit (.int .i64 10)) [] (plainElem_int Tryz.underlying3 (by decide)) ?_; intro w11 ho hg; have HO11 : Hid (w11.ownsMap Tryz.prog 9 (plainElem Tryz.prog 3) w.heap.size 11 (opD 11)) := Lib.hid ho; have HG11 := Lib.hid (gr_new HG10.out hg (Nat.le_refl _)); clear ho hg)
  | (refine wpList_insert_ownP _ rfl _ _ _ 170 rfl 9 3 keyStr Tryz.underlying170 (plainElem Tryz.prog 3) w.heap.size 9 (opD 9) rfl HO9.out (by unfold maxLen; omega) (.string ⟨#[62]⟩) (.int .i64 9) (skl (symB 9)) rfl rfl (keyOfStr ⟨#[62]⟩ (by decide)) (.lit (.int .i64 9)) [] (plainElem_int Tryz.underlying3 (by decide)) ?_; intro w10 ho hg; have HO10 : Hid (w10.ownsMap Tryz.prog 9 (plainElem Tryz.prog 3) w.heap.size 10 (opD 10)) := Lib.hid ho; have HG10 := Lib.hid (gr_new HG9.out hg (Nat.le_refl _)); clear ho hg)
  | (refine wpList_insert_ownP _ rfl _ _ _ 170 rfl 9 3 keyStr Tryz.underlying170 (plainElem Tryz.prog 3) w.heap.size 8 (opD 8) rfl HO8.out (by unfold maxLen; omega) (.string ⟨#[60, 61]⟩) (.int .i64 8) (skl (symB 8)) rfl rfl (keyOfStr ⟨#[60, 61]⟩ (by decide)) (.lit (.int .i64 8)) [] (plainElem_int Tryz.underlying3 (by decide)) ?_; intro w9 ho hg; have HO9 : Hid (w9.ownsMap Tryz.prog 9 (plainElem Tryz.prog 3) w.heap.size 9 (opD 9)) := Lib.hid ho; have HG9 := Lib.hid (gr_new HG8.out hg (Nat.le_refl _)); clear ho hg)
  | (refine wpList_insert_ownP _ rfl _ _ _ 170 rfl 9 3 keyStr Tryz.underlying170 (plainElem Tryz.prog 3) w.heap.size 7 (opD 7) rfl HO7.out (by unfold maxLen; omega) (.string ⟨#[60]⟩) (.int .i64 7) (skl (symB 7)) rfl rfl (keyOfStr ⟨#[60]⟩ (by decide)) (.lit (.int .i64 7)) [] (plainElem_int Tryz.underlying3 (by decide)) ?_; intro w8 ho hg; have HO8 : Hid (w8.ownsMap Tryz.prog 9 (plainElem Tryz.prog 3) w.heap.size 8 (opD 8)) := Lib.hid ho; have HG8 := Lib.hid (gr_new HG7.out hg (Nat.le_refl _)); clear ho hg)
  | (refine wpList_insert_ownP _ rfl _ _ _ 170 rfl 9 3 keyStr Tryz.underlying170 (plainElem Tryz.prog 3) w.heap.size 6 (opD 6) rfl HO6.out (by unfold maxLen; omega) (.string ⟨#[33, 61]⟩) (.int .i64 6) (skl (symB 6)) rfl rfl (keyOfStr ⟨#[33, 61]⟩ (by decide)) (.lit (.int .i64 6)) [] (plainElem_int Tryz.underlying3 (by decide)) ?_; intro w7 ho hg; have HO7 : Hid (w7.ownsMap Tryz.prog 9 (plainElem Tryz.prog 3) w.heap.size 7 (opD 7)) := Lib.hid ho; have HG7 := Lib.hid (gr_new HG6.out hg (Nat.le_refl _)); clear ho hg)
  | (refine wpList_insert_ownP _ rfl _ _ _ 170 rfl 9 3 keyStr Tryz.underlying170 (plainElem Tryz.prog 3) w.heap.size 5 (opD 5) rfl HO5.out (by unfold maxLen; omega) (.string ⟨#[61, 61]⟩) (.int .i64 5) (skl (symB 5)) rfl rfl (keyOfStr ⟨#[61, 61]⟩ (by decide)) (.lit (.int .i64 5)) [] (plainElem_int Tryz.underlying3 (by decide)) ?_; intro w6 ho hg; have HO6 : Hid (w6.ownsMap Tryz.prog 9 (plainElem Tryz.prog 3) w.heap.size 6 (opD 6)) := Lib.hid ho; have HG6 := Lib.hid (gr_new HG5.out hg (Nat.le_refl _)); clear ho hg)
  | (refine wpList_insert_ownP _ rfl _ _ _ 170 rfl 9 3 keyStr Tryz.underlying170 (plainElem Tryz.prog 3) w.heap.size 4 (opD 4) rfl HO4.out (by unfold maxLen; omega) (.string ⟨#[37]⟩) (.int .i64 4) (skl (symB 4)) rfl rfl (keyOfStr ⟨#[37]⟩ (by decide)) (.lit (.int .i64 4)) [] (plainElem_int Tryz.underlying3 (by decide)) ?_; intro w5 ho hg; have HO5 : Hid (w5.ownsMap Tryz.prog 9 (plainElem Tryz.prog 3) w.heap.size 5 (opD 5)) := Lib.hid ho; have HG5 := Lib.hid (gr_new HG4.out hg (Nat.le_refl _)); clear ho hg)
  | (refine wpList_insert_ownP _ rfl _ _ _ 170 rfl 9 3 keyStr Tryz.underlying170 (plainElem Tryz.prog 3) w.heap.size 3 (opD 3) rfl HO3.out (by unfold maxLen; omega) (.string ⟨#[47]⟩) (.int .i64 3) (skl (symB 3)) rfl rfl (keyOfStr ⟨#[47]⟩ (by decide)) (.lit (.int .i64 3)) [] (plainElem_int Tryz.underlying3 (by decide)) ?_; intro w4 ho hg; have HO4 : Hid (w4.ownsMap Tryz.prog 9 (plainElem Tryz.prog 3) w.heap.size 4 (opD 4)) := Lib.hid ho; have HG4 := Lib.hid (gr_new HG3.out hg (Nat.le_refl _)); clear ho hg)
  | (refine wpList_insert_ownP _ rfl _ _ _ 170 rfl 9 3 keyStr Tryz.underlying170 (plainElem Tryz.prog 3) w.heap.size 2 (opD 2) rfl HO2.out (by unfold maxLen; omega) (.string ⟨#[42]⟩) (.int .i64 2) (skl (symB 2)) rfl rfl (keyOfStr ⟨#[42]⟩ (by decide)) (.lit (.int .i64 2)) [] (plainElem_int Tryz.underlying3 (by decide)) ?_; intro w3 ho hg; have HO3 : Hid (w3.ownsMap Tryz.prog 9 (plainElem Tryz.prog 3) w.heap.size 3 (opD 3)) := Lib.hid ho; have HG3 := Lib.hid (gr_new HG2.out hg (Nat.le_refl _)); clear ho hg)
  | (refine wpList_insert_ownP _ rfl _ _ _ 170 rfl 9 3 keyStr Tryz.underlying170 (plainElem Tryz.prog 3) w.heap.size 1 (opD 1) rfl HO1.out (by unfold maxLen; omega) (.string ⟨#[45]⟩) (.int .i64 1) (skl (symB 1)) rfl rfl (keyOfStr ⟨#[45]⟩ (by decide)) (.lit (.int .i64 1)) [] (plainElem_int Tryz.underlying3 (by decide)) ?_; intro w2 ho hg; have HO2 : Hid (w2.ownsMap Tryz.prog 9 (plainElem Tryz.prog 3) w.heap.size 2 (opD 2)) := Lib.hid ho; have HG2 := Lib.hid (gr_new HG1.out hg (Nat.le_refl _)); clear ho hg)
  | (refine wpList_insert_ownP _ rfl _ _ _ 170 rfl 9 3 keyStr Tryz.underlying170 (plainElem Tryz.prog 3) w.heap.size 0 (opD 0) rfl (World.ownsMap_made w _ _ _) (by unfold maxLen; omega) (.string ⟨#[43]⟩) (.int .i64 0) (skl (symB 0)) rfl rfl (keyOfStr ⟨#[43]⟩ (by decide)) (.lit (.int .i64 0)) [] (plainElem_int Tryz.underlying3 (by decide)) ?_; intro w1 ho hg; have HO1 : Hid (w1.ownsMap Tryz.prog 9 (plainElem Tryz.prog 3) w.heap.size 1 (opD 1)) := Lib.hid ho; have HG1 := Lib.hid (gr_new (gr_alloc (gr_refl w none) _) hg (Nat.le_refl _)); clear ho hg))
 go_ret
 exact ⟨_, rfl, HO13.out, gr_fresh HG13.out⟩
set_option maxRecDepth 100000 in
set_option maxHeartbeats 4000000 in
theorem operator_any (hp : PS L n tbk tc P k w) (hL : Pa.TkL L n) (ops : List Nat) (N g : Nat) (hN : ops.length = N) (hN9 : N ≤ 100) (ho : ∀ o ∈ ops, o ≤ 12) (hg : ∀ (j o : Nat), ops[j]? = some o → w.cell? ⟨g, j, none⟩ = some (.string (symB o))) :
 Calls Tryz.prog 121 #[.pointer (some ⟨P, 0, none⟩), .slice (some ⟨g, 0, none⟩) N N] w fun e w' =>
  (∃ o, Pa.opOf (ops.map fun o : Nat => (o : Int)) (Pa.rest L n k) = some ((o : Nat) : Int) ∧ o ∈ ops ∧ e = .returned (.tuple #[.int .i64 o, .bool true]) ∧ w.grownBy w' (some P) ∧ PS L n tbk tc P (k + 1) w') ∨
  (Pa.opOf (ops.map fun o : Nat => (o : Int)) (Pa.rest L n k) = none ∧ e = .returned (.tuple #[.int .i64 0, .bool false]) ∧ Below w.heap.size w w') := by
 have HPS := Lib.hid hp
 have HL := Lib.hid hL
 have HN := Lib.hid hN
 have HO := Lib.hid ho
 have HG := Lib.hid hg
 clear hp hL hN ho hg
 go_enter Tryz.func121, Tryz.ntmps121
 go_wp2_with fail
 go_loopg [7, 10] N (fun gg s7 s10 wr => ∃ j : Nat, s10 = .int .i64 j ∧ j ≤ N ∧ gg = N - j ∧ Hid (∀ (i o : Nat), i < j → ops[i]? = some o → Pa.is (Sy.sym o) (Pa.rest L n k) = false) ∧ Hid (Below w.heap.size w wr))
 case atStart => exact ⟨0, rfl, Nat.zero_le _, rfl, Lib.hid fun i o h => absurd h (Nat.not_lt_zero _), Lib.hid (Below.refl _ _)⟩
 case round =>
  obtain ⟨j, rfl, hj, rfl, HNO, HB⟩ := hrel
  by_cases hlt : j < N
  ·obtain ⟨o, hx⟩ : ∃ x, ops[j]? = some x := ⟨_, List.getElem?_eq_getElem (by rw [HN.out]; exact hlt)⟩
   have hc := cell_keep' HB.out (HG.out j o hx)
   have hcl := cell_lt' hc
   have hb1 : (0 : Int) ≤ (j : Int) := by omega
   have hb2 : (j : Int) < (N : Int) := by omega
   have ho12 := HO.out o (List.mem_of_getElem? hx)
   have hne := symB_ne ho12
   have HX := Lib.hid hx
   clear hx
   cases his : Pa.is (Sy.sym o) (Pa.rest L n k)
   ·have KT := Lib.hid (take_no (HPS.out.below HB.out) HL.out (symB o) hne his)
    have HIS := Lib.hid his
    clear his hne
    go_wp2_with fail
    refine KT.out.mono ?_
    rintro e w1 ⟨rfl, h1⟩
    have HB1 := Lib.hid (below_next HB.out h1)
    clear h1 hc hcl
    go_wp2_with fail
    go_roundg (N - (j + 1))
    case measure => omega
    case rel =>
     refine ⟨j + 1, by go_num, by omega, rfl, Lib.hid fun i o' hi hx' => ?_, HB1⟩
     rcases Nat.lt_or_ge i j with h | h
     ·exact HNO.out i o' h hx'
     ·obtain rfl : i = j := by omega
      have e := HX.out
      rw [hx'] at e
      cases e
      exact HIS.out
   ·have KT := Lib.hid (take_yes (HPS.out.below HB.out) HL.out (symB o) hne his)
    have HIS := Lib.hid his
    clear his hne
    go_wp2_with fail
    refine KT.out.mono ?_
    rintro e w1 ⟨rfl, h1, h2⟩
    have H1 := Lib.hid (gr_trans (gr_below HB.out (some P)) h1)
    have H2 := Lib.hid h2
    clear h1 h2 hc hcl
    go_wp2_with fail
    refine (operators_any w1).mono ?_
    rintro e w2 ⟨M, rfl, hM, hb2⟩
    have hlk := ops_look hM o ho12
    have H3 := Lib.hid (gr_trans H1.out (gr_below hb2 (some P)))
    have H4 := Lib.hid (H2.out.below hb2)
    clear hM hb2
    go_wp2_with fail
    go_ret2
    refine .inl ⟨o, ?_, List.mem_of_getElem? HX.out, rfl, H3.out, H4.out⟩
    unfold Pa.opOf
    rw [List.find?_eq_some_iff_getElem]
    refine ⟨HIS.out, j, by rw [List.length_map]; rw [HN.out]; exact hlt, ?_, fun i hi => ?_⟩
    ·rw [List.getElem_map]
     have e := (List.getElem?_eq_some_iff.1 HX.out).2
     rw [e]
    ·rw [List.getElem_map]
     have := HNO.out i _ hi (List.getElem?_eq_getElem (by rw [HN.out]; omega))
     rw [this]
     rfl
  ·obtain rfl : j = N := by omega
   go_wp2_with fail
   go_ret2
   refine .inr ⟨?_, rfl, HB.out⟩
   unfold Pa.opOf
   rw [List.find?_eq_none]
   intro x hx
   obtain ⟨o, hm, rfl⟩ := List.mem_map.1 hx
   obtain ⟨i, hi, rfl⟩ := List.getElem_of_mem hm
   rw [HNO.out i _ (by rw [← HN.out]; exact hi) (List.getElem?_eq_getElem hi)]
   decide
end
end Go.Proofs.YtdckddkalgnlpaaGreatDoor
namespace Go.Proofs.YtdckddkalgnlpaaGreatDoor
open Go.RowKit Go.Maps Pw
def upL (B : Nat) (l : List Nat) : Nat → Bool := fun k => decide (k < B ∨ k ∈ l)
theorem upL_true {B k : Nat} {l : List Nat} : upL B l k = true ↔ k < B ∨ k ∈ l := by unfold upL; exact decide_eq_true_iff
theorem up_step {B B' : Nat} {l l' : List Nat} {w w' : World} {row : Option Nat} (hg : w.grownBy w' row) (h1 : ∀ k, row = some k → k < B ∨ k ∈ l) (h2 : ∀ k, k < w.heap.size → k < B' ∨ k ∈ l' → k < B ∨ k ∈ l) : Inc (hide (upL B l) w) (hide (upL B' l') w') :=
 hide_step hg (fun k hk => upL_true.2 (h1 k hk)) (fun k hk hs => upL_true.2 (h2 k hk (upL_true.1 hs)))
theorem up_mono {B B' : Nat} {l l' : List Nat} {w : World} (h2 : ∀ k, k < w.heap.size → k < B' ∨ k ∈ l' → k < B ∨ k ∈ l) : Inc (hide (upL B l) w) (hide (upL B' l') w) := up_step (row := none) (gr_refl w none) (fun _ h => by cases h) h2
theorem upL_ge {B k : Nat} {l : List Nat} (h : B ≤ k) (h2 : k ∉ l) : upL B l k = false := by
 unfold upL
 rw [decide_eq_false_iff_not]
 rintro (h3 | h3)
 ·omega
 ·exact h2 h3
def rdE (W : World) (v : Value) (e : Tr.E) : Prop := ∃ a, v = exprV e a ∧ BdE e ∧ SlE W a e.args
def PQ {α : Type} (L : List Lex.Tok) (n tbk tc P k : Nat) (p : Nat → Pa.Toks → Pa.R α) (rd : World → Value → α → Prop) (w : World) (e : Ending) (w' : World) : Prop :=
 w.grownBy w' (some P) ∧
 ((∃ a v k', Pa.Ev (fun f => p f (Pa.rest L n k)) (.ok a (Pa.rest L n k')) ∧ e = .returned v ∧ rd (hide (upL w.heap.size []) w') v a ∧ k < k' ∧ PS L n tbk tc P k' w') ∨
  (∃ k' t, Pa.Ev (fun f => p f (Pa.rest L n k)) (.bad (Pa.rest L n k')) ∧ e = .panicked (failV t.pos) ∧ k ≤ k' ∧ k' ≤ n ∧ L[k']? = some t))
def EC (L : List Lex.Tok) (n tbk tc P F lv m : Nat) : Prop := ∀ k w, PS L n tbk tc P k w → n - k ≤ m → Calls Tryz.prog F #[.pointer (some ⟨P, 0, none⟩)] w (PQ L n tbk tc P k (fun f ts => Pa.pE f lv ts) rdE w)
namespace Pa
theorem ev_pL_some {lv : Nat} {ops : List Int} {a : Tr.E} {ts : Toks} {o : Int} {x : R Tr.E} (h : opOf ops ts = some o) (hb : Ev (fun f => (pE f lv ts.tail).bind fun b r => pL f lv ops (bin o a b) r) x) : Ev (fun f => pL f lv ops a ts) x :=
 .step (fun f => by rw [pL_s, h]) hb
theorem ev_pL_none {lv : Nat} {ops : List Int} {a : Tr.E} {ts : Toks} (h : opOf ops ts = none) : Ev (fun f => pL f lv ops a ts) (.ok a ts) :=
 .step (q := fun _ => .ok a ts) (fun f => by rw [pL_s, h]) (.const _)
end Pa
theorem rd_two {B : Nat} {l : List Nat} {W : World} {g : Nat} {x y : Tr.E} {a b : Value} {cs : Array Value} {t : TypeId} (h : W.heap[g]? = some (.cells cs t (0, 0))) (hc : cs = #[.int .i64 x.kind, .int .i64 x.op, .int .i64 x.int, .string x.name, .bool x.at_, a, .int .i64 y.kind, .int .i64 y.op, .int .i64 y.int, .string y.name, .bool y.at_, b])
 (hg : B ≤ g) (hl : g ∉ l) (hx : BdE x) (hy : BdE y) (ha : SlE (hide (upL B l) W) a x.args) (hb : SlE (hide (upL B l) W) b y.args) : SlE (hide (upL B l) W) (.slice (some ⟨g, 0, none⟩) 2 2) [x, y] :=
 slE_blk (w := hide (upL B l) W) ((hide_heap (upL_ge hg hl)).trans h) [(x, a), (y, b)] (by simp) (by subst hc; rfl) (fun z hz => by
  simp only [List.mem_cons, List.not_mem_nil, or_false] at hz
  rcases hz with rfl | rfl
  ·exact ⟨hx, ha⟩
  ·exact ⟨hy, hb⟩)
theorem i64_small {n : Int} (h0 : -1000 ≤ n) (h1 : n ≤ 1000) : Tr.I64 n := ⟨by omega, by omega⟩
theorem size_nil : (⟨#[]⟩ : ByteArray).size ≤ maxLen := by decide
theorem bd_bin {o : Nat} (h : o ≤ 12) (x y : Tr.E) : BdE (Pa.bin o x y) := ⟨i64_small (n := 10) (by decide) (by decide), i64_small (n := (o : Int)) (by omega) (by omega), i64_small (n := 0) (by decide) (by decide), size_nil⟩
end Go.Proofs.YtdckddkalgnlpaaGreatDoor
namespace Go.Proofs.YtdckddkalgnlpaaGreatDoor
open Go.RowKit Go.Maps Pw
theorem bd_fld {nm : ByteArray} (h : nm.size ≤ maxLen) (x : Tr.E) : BdE (Pa.fld nm x) := ⟨i64_small (n := 4) (by decide) (by decide), i64_small (n := 0) (by decide) (by decide), i64_small (n := 0) (by decide) (by decide), h⟩
theorem word_at {K : Nat} {L : List Lex.Tok} {n k : Nat} {t : Lex.Tok} (hk : k < n) (ht : L[k]? = some t) (h : t.kind = K) : Pa.word K (Pa.rest L n k) = .ok ⟨t.text.toArray⟩ (Pa.rest L n (k + 1)) := by
 rw [Pa.rest_cons hk ht]
 show (if (Pa.tb t).kind = K then _ else _) = _
 rw [if_pos (show (Pa.tb t).kind = K from h)]
 rfl
theorem word_other {K : Nat} {L : List Lex.Tok} {n k : Nat} {t : Lex.Tok} (hL : Pa.TkL L n) (hk : k ≤ n) (ht : L[k]? = some t) (h : t.kind ≠ K) : Pa.word K (Pa.rest L n k) = .bad (Pa.rest L n k) := by
 rcases Nat.lt_or_ge k n with hlt | hge
 ·rw [Pa.rest_cons hlt ht]
  show (if (Pa.tb t).kind = K then _ else _) = _
  rw [if_neg (show ¬ (Pa.tb t).kind = K from h)]
 ·obtain rfl : k = n := by omega
  rw [Pa.rest_end]
  rfl
theorem tok_size {L : List Lex.Tok} {n k : Nat} {t : Lex.Tok} (hL : Pa.TkL L n) (ht : L[k]? = some t) : (⟨t.text.toArray⟩ : ByteArray).size ≤ maxLen := by
 have h := (hL.pos t (List.mem_of_getElem? ht)).2.2.2
 have e : (⟨t.text.toArray⟩ : ByteArray).size = t.text.length := by rw [Lib.size_eq]
 rw [e]
 unfold maxLen
 omega
theorem kind_lt {L : List Lex.Tok} {n k : Nat} {t : Lex.Tok} (hL : Pa.TkL L n) (hk : k ≤ n) (ht : L[k]? = some t) (h : t.kind ≠ 0) : k < n := by
 rcases Nat.lt_or_ge k n with hlt | hge
 ·exact hlt
 ·obtain rfl : k = n := by omega
  obtain ⟨p, hp⟩ := hL.last
  rw [hp] at ht
  cases ht
  exact absurd rfl h
theorem kindI {a : Nat} (K : Nat) (h : a = K) : ((a : Int) == (K : Int)) = true := by rw [kind_beq, h, beq_self_eq_true]
theorem kindN {a : Nat} (K : Nat) (h : a ≠ K) : ((a : Int) == (K : Int)) = false := by rw [kind_beq, beq_eq_false_iff_ne.2 h]
theorem bd_un {k : Int} (h0 : 0 ≤ k) (h1 : k ≤ 10) (x : Tr.E) : BdE (Pa.un k x) := ⟨i64_small (n := k) (by omega) (by omega), i64_small (n := 0) (by decide) (by decide), i64_small (n := 0) (by decide) (by decide), size_nil⟩
theorem bd_num {v : Nat} (h : v ≤ 9223372036854775807) : BdE (Pa.num v) := ⟨i64_small (n := 0) (by decide) (by decide), i64_small (n := 0) (by decide) (by decide), ⟨by show (-9223372036854775808 : Int) ≤ (v : Int); omega, by show (v : Int) ≤ 9223372036854775807; omega⟩, size_nil⟩
theorem bd_var {s : ByteArray} (h : s.size ≤ maxLen) : BdE (Pa.var s) := ⟨i64_small (n := 3) (by decide) (by decide), i64_small (n := 0) (by decide) (by decide), i64_small (n := 0) (by decide) (by decide), h⟩
theorem bd_leaf {k : Int} (h0 : 0 ≤ k) (h1 : k ≤ 10) : BdE (Pa.leaf k) := ⟨i64_small (n := k) (by omega) (by omega), i64_small (n := 0) (by decide) (by decide), i64_small (n := 0) (by decide) (by decide), size_nil⟩
theorem bd_new {s : ByteArray} (h : s.size ≤ maxLen) (b : Bool) (l : List Tr.E) : BdE (Pa.new s b l) := ⟨i64_small (n := 5) (by decide) (by decide), i64_small (n := 0) (by decide) (by decide), i64_small (n := 0) (by decide) (by decide), h⟩
def Mono {α : Type} (ok : World → α → Prop) : Prop := ∀ (U U' : World) (x : α), Inc U U' → ok U x → ok U' x
def ownL (v : Value) : List Nat := v.ownBlock.toList
theorem ownL_mem {v : Value} {k : Nat} : k ∈ ownL v ↔ v.ownBlock = some k := by
 unfold ownL
 cases v.ownBlock with
 | none => simp
 | some q => simp [eq_comm]
structure RowOk {α : Type} (f : α → List Value) (k : Nat) (t : TypeId) (ok : World → α → Prop) (B : Nat) (l : List Nat) (W : World) (v : Value) (tr : List α) : Prop where
 own : W.ownsRow B t k v tr.length (flatV f tr)
 rd : ∀ x ∈ tr, ok (hide (upL B (l ++ ownL v)) W) x
 nin : ∀ q ∈ l, v.ownBlock ≠ some q
section
variable {α : Type} {f : α → List Value} {k : Nat} {t : TypeId} {ok : World → α → Prop} {B : Nat} {l : List Nat} {W W' : World} {v : Value} {tr : List α}
theorem RowOk.nil : RowOk f k t ok B l W (.slice none 0 0) [] := ⟨⟨by simp [flatV], .inl ⟨rfl, rfl⟩⟩, (fun x hx => by cases hx), (fun _ _ h => by cases h)⟩
theorem RowOk.ge (h : RowOk f k t ok B l W v tr) {q : Nat} (hq : v.ownBlock = some q) : B ≤ q ∧ q < W.heap.size := by
 obtain ⟨h1, cur, h2⟩ := own_ge h.own hq
 exact ⟨h1, lt_of_block h2⟩
theorem RowOk.keep (hmono : Mono ok) (h : RowOk f k t ok B l W v tr) {row : Option Nat} (hg : W.grownBy W' row) (h1 : ∀ q, row = some q → q < B ∨ q ∈ l) (h2 : ∀ q, row = some q → v.ownBlock ≠ some q) : RowOk f k t ok B l W' v tr := by
 refine ⟨?_, fun x hx => hmono _ _ _ (up_step hg (fun q hq => ?_) (fun q _ hq => hq)) (h.rd x hx), h.nin⟩
 ·refine ⟨h.own.1, ?_⟩
  rcases h.own.2 with hn | ⟨g, cap, cur, rfl, hb, hg', rest⟩
  ·exact .inl hn
  ·exact .inr ⟨g, cap, cur, rfl, hb, gr_at hg hg' (fun e => h2 g e.symm rfl), rest⟩
 ·rcases h1 q hq with h3 | h3
  ·exact .inl h3
  ·exact .inr (List.mem_append.2 (.inl h3))
theorem RowOk.below (hmono : Mono ok) (h : RowOk f k t ok B l W v tr) (hb : Below W.heap.size W W') : RowOk f k t ok B l W' v tr :=
 h.keep hmono (gr_below hb none) (fun _ e => by cases e) (fun _ e => by cases e)
theorem new_reads (hmono : Mono ok) {w1 : World} {C : Nat} {l0 : List Nat} {x : α} (h : ∀ q, v.ownBlock = some q → q < C) (hx : ok (hide (upL C l0) w1) x) (hB : B ≤ C) (hl : ∀ q ∈ l, q < C ∨ q ∈ l0) : ok (hide (upL B (l ++ ownL v)) w1) x :=
 hmono _ _ _ (up_mono (fun q _ hm => by
  rcases hm with hm | hm
  ·exact .inl (by omega)
  ·rcases List.mem_append.1 hm with hm | hm
   ·exact hl q hm
   ·exact .inl (h q (ownL_mem.1 hm)))) hx
end
theorem run_append_fresh {P : Program} (w : World) (base : Nat) (t ty e : TypeId) (i : TypeInfo) (z : Value) (size bytes : Nat) (ht : P.underlying t = some (.slice e)) (hi : P.info? e = some i) (hz : i.zero = some z)
 (hsize : i.size = size) (hby : i.bytes = bytes)
 (v : Value) (n : Nat) (xs : List Value) (hown : w.ownsRow base e size v n xs)
 (a : Addr) (m c : Nat) (news : List Value) (hl : news.length = m * size) (hm : 0 < m) (hnews : ∀ j u, news[j]? = some u → w.cell? (a.add j) = some u) (h1 : ∀ u ∈ news, u.oneCell' = true)
 (h63 : n + m ≤ maxLen) (hbytes : (n + m) * bytes ≤ 140737488355328) (v' : Value) (w' : World) (hr : (Builtin.append_ #[t, t] ty #[v, .slice (some a) m c]).run P w = .ok v' w') :
 v'.ownBlock = v.ownBlock ∨ v'.ownBlock = some w.heap.size := by
 subst hsize
 subst hby
 have hsmall : n + m ≤ 9223372036854775807 := by simp only [maxLen] at h63; omega
 rcases hown.2 with ⟨rfl, rfl⟩ | ⟨g, cap, cur, rfl, hbg, hg, hnc, hcm, hcs, htake⟩
 ·have h2 := run_append_nil (P := P) w t ty e i z ht hi hz a m c news hl hnews hm (by omega) (by have hb := hbytes; simp only [Nat.zero_add] at hb; omega)
  rw [hr] at h2
  injection h2 with h3
  subst h3
  exact .inr rfl
 ·by_cases hroom : n + m ≤ cap
  ·have hfit : n * i.size + news.length ≤ cur.size := by rw [hl, hcs, ← Nat.add_mul]; exact Nat.mul_le_mul_right _ hroom
   have h2 := run_append_room (P := P) w t ty e i ht hi g n cap cur hg a m c news hl hnews h1 hroom hfit
   rw [hr] at h2
   injection h2 with h3
   subst h3
   exact .inl rfl
  ·have holds : ∀ j u, xs[j]? = some u → w.cell? ((⟨g, 0, none⟩ : Addr).add j) = some u := hown.cells (g := g) rfl
   have h2 := run_append_grow (P := P) w t ty e i z ht hi hz ⟨g, 0, none⟩ n cap xs hown.1 holds a m c news hl hnews (by omega) (by omega) (growslice_fits (by omega) hbytes)
   rw [hr] at h2
   injection h2 with h3
   subst h3
   exact .inr rfl
section
variable {α : Type} {f : α → List Value} {k : Nat} {e : TypeId} {ok : World → α → Prop} {B : Nat} {l : List Nat} {w : World} {v : Value} {tr : List α}
theorem run_push {P : Program} (hf : ∀ a, (f a).length = k) (hmono : Mono ok) (t ty : TypeId) (i : TypeInfo) (z : Value) (bytes : Nat) (ht : P.underlying t = some (.slice e)) (hi : P.info? e = some i) (hz : i.zero = some z)
 (hsize : i.size = k) (hby : i.bytes = bytes) (hzs : z.cells.size = k) (hsz : 0 < k) (hrow : RowOk f k e ok B l w v tr) (v2 : Value) (news : List α) (hsrc : SrcAt w f v2 news) (hnews : ∀ x ∈ news, ok (hide (upL B (l ++ ownL v)) w) x) (h1 : ∀ a ∈ news, ∀ u ∈ f a, u.oneCell' = true)
 (h63 : tr.length + news.length ≤ maxLen) (hbytes : (tr.length + news.length) * bytes ≤ 140737488355328) (hbase : B ≤ w.heap.size) (hlw : ∀ q ∈ l, q < w.heap.size) :
 ∃ v' w', (Builtin.append_ #[t, t] ty #[v, v2]).run P w = .ok v' w' ∧ RowOk f k e ok B l w' v' (tr ++ news) ∧ w.grownBy w' v.ownBlock := by
 by_cases hn : news = []
 ·subst hn
  have hv2 : ∃ p c, v2 = .slice p 0 c := by
   rcases hsrc with ⟨_, p, c, h⟩ | ⟨b, o, c, h, _⟩
   ·exact ⟨p, c, h⟩
   ·exact ⟨_, _, h⟩
  obtain ⟨p, c, rfl⟩ := hv2
  refine ⟨v, w, run_append_owned_empty B t ty e i k ht hi v _ _ hrow.own p c, ?_, gr_refl w _⟩
  rw [List.append_nil]
  exact hrow
 ·have hx : ∃ b o c, v2 = .slice (some ⟨b, o, none⟩) news.length c ∧ ∀ j u, (flatV f news)[j]? = some u → w.cell? ⟨b, o + j, none⟩ = some u := by
   rcases hsrc with ⟨h, _⟩ | h
   ·exact absurd h hn
   ·exact h
  obtain ⟨b, o, c, rfl, hcell⟩ := hx
  have hpos : 0 < news.length := List.length_pos_iff.2 hn
  have hone : ∀ u ∈ flatV f news, u.oneCell' = true := by
   intro u hu
   obtain ⟨a, ha, hu⟩ := List.mem_flatMap.1 hu
   exact h1 a ha u hu
  have hcell2 : ∀ j u, (flatV f news)[j]? = some u → w.cell? ((⟨b, o, none⟩ : Addr).add j) = some u := fun j u hj => by
   have e : (⟨b, o, none⟩ : Addr).add j = ⟨b, o + j, none⟩ := by unfold Addr.add; split <;> simp_all
   rw [e]
   exact hcell j u hj
  have hlen : (flatV f news).length = news.length * k := flatV_len f k hf news
  obtain ⟨v', w', hr, h2, h3, h4⟩ := run_append_own (P := P) w B t ty e i z k bytes ht hi hz hsize hby hzs hsz v tr.length (flatV f tr) hrow.own ⟨b, o, none⟩ news.length c (flatV f news) hlen hcell2 hone h63 hbytes hbase
  have h5 := run_append_fresh w B t ty e i z k bytes ht hi hz hsize hby v tr.length (flatV f tr) hrow.own ⟨b, o, none⟩ news.length c (flatV f news) hlen hpos hcell2 hone h63 hbytes v' w' hr
  refine ⟨v', w', hr, ⟨?_, fun x hx => ?_, fun q hq he => ?_⟩, h3⟩
  ·rw [List.length_append, flatV_append]
   exact h2
  ·have hall : ok (hide (upL B (l ++ ownL v)) w) x := by
    rcases List.mem_append.1 hx with h | h
    ·exact hrow.rd x h
    ·exact hnews x h
   refine hmono _ _ _ (up_step h3 (fun q hq => .inr (List.mem_append.2 (.inr (ownL_mem.2 hq)))) (fun q hlt hq => ?_)) hall
   rcases hq with hq | hq
   ·exact .inl hq
   ·rcases List.mem_append.1 hq with hq | hq
    ·exact .inr (List.mem_append.2 (.inl hq))
    ·have hv := ownL_mem.1 hq
     rcases h5 with h5 | h5
     ·exact .inr (List.mem_append.2 (.inr (ownL_mem.2 (h5 ▸ hv))))
     ·rw [h5] at hv
      injection hv with hv
      omega
  ·rcases h5 with h5 | h5
   ·exact hrow.nin q hq (h5 ▸ he)
   ·rw [h5] at he
    injection he with he
    have := hlw q hq
    omega
end
theorem readET_mono : Mono (ReadET) := fun _ _ _ h hx => ⟨hx.1, hx.2.inc h⟩
theorem readST_mono : Mono (ReadST) := fun _ _ _ h hx => ⟨hx.1, hx.2.1.inc h, hx.2.2.1.inc h, hx.2.2.2.inc h⟩
theorem readM_mono : Mono (fun U (x : MT) => ReadM U x.1 x.2.1 x.2.2) := fun _ _ _ h hx => ⟨hx.1, hx.2.1.inc h, hx.2.2.inc h⟩
theorem readC_mono : Mono (fun U (x : CT) => ReadC U x.1 x.2.1 x.2.2) := fun _ _ _ h hx => ⟨hx.1, hx.2.1.inc h, hx.2.2.inc h⟩
def ReadNm (_ : World) (x : ByteArray) : Prop := x.size ≤ maxLen
theorem readN_mono : Mono ReadNm := fun _ _ _ _ hx => hx
theorem RowOk.hid {α : Type} {f : α → List Value} {k : Nat} {t : TypeId} {ok : World → α → Prop} {B : Nat} {l l' : List Nat} {W : World} {v : Value} {tr : List α} (hmono : Mono ok) (h : RowOk f k t ok B l W v tr) (hl : ∀ q ∈ l', q ∈ l) (hv : ∀ q ∈ l', v.ownBlock ≠ some q) :
 (hide (upL B l') W).ownsRow B t k v tr.length (flatV f tr) ∧ ∀ x ∈ tr, ok (hide (upL B l') W) x := by
 refine ⟨hide_own h.own (fun q hq => upL_ge (h.ge hq).1 (fun hm => hv q hm hq)), fun x hx => hmono _ _ _ (up_mono (fun q _ hq => ?_)) (h.rd x hx)⟩
 rcases hq with hq | hq
 ·exact .inl hq
 ·exact .inr (List.mem_append.2 (.inl (hl q hq)))
theorem RowOk.lit {α : Type} {f : α → List Value} {k : Nat} {t : TypeId} {ok : World → α → Prop} {B : Nat} {l : List Nat} {W : World} {G : Nat} {cs : Array Value} {x : α} (h : W.heap[G]? = some (.cells cs t (0, 0))) (hcs : cs.toList = f x) (hf : (f x).length = k) (hB : B ≤ G) (hn : G ∉ l) (hr : ok (hide (upL B (l ++ [G])) W) x) : RowOk f k t ok B l W (.slice (some ⟨G, 0, none⟩) 1 1) [x] := by
 have hsz : cs.size = k := by rw [← hf, ← hcs, Array.length_toList]
 refine ⟨⟨by simp [flatV, hf], .inr ⟨G, 1, cs, rfl, hB, h, Nat.le_refl _, by decide, by rw [hsz, Nat.one_mul], ?_⟩⟩, fun y hy => ?_, fun q hq e => ?_⟩
 ·rw [List.length_singleton, Nat.one_mul, ← hsz, ← Array.length_toList, List.take_length, hcs]
  simp [flatV]
 ·rw [List.mem_singleton.1 hy]
  exact hr
 ·injection e with e
  exact hn ((show G = q from e) ▸ hq)
theorem RowOk.src {α : Type} {f : α → List Value} {k : Nat} {t : TypeId} {ok : World → α → Prop} {B : Nat} {l : List Nat} {W : World} {v : Value} {tr : List α} (h : RowOk f k t ok B l W v tr) : SrcAt W f v tr := by
 rcases h.own.2 with ⟨rfl, hn⟩ | ⟨g, cap, cur, rfl, hb, hg, hnc, hcm, hcs, ht⟩
 ·exact .inl ⟨List.eq_nil_of_length_eq_zero hn, none, 0, rfl⟩
 ·refine .inr ⟨g, 0, cap, rfl, fun j u hj => ?_⟩
  have := h.own.cells (g := g) rfl j u hj
  have e : (⟨g, 0, none⟩ : Addr).add j = ⟨g, 0 + j, none⟩ := by unfold Addr.add; split <;> simp_all
  rw [e] at this
  exact this
theorem RowOk.slStr {B : Nat} {l l' : List Nat} {W : World} {v : Value} {tr : List ByteArray} (h : RowOk nCells 1 9 ReadNm B l W v tr) (hl : ∀ q ∈ l', q ∈ l) (hv : ∀ q ∈ l', v.ownBlock ≠ some q) : SlStr (hide (upL B l') W) v tr := by
 obtain ⟨h1, h2⟩ := h.hid readN_mono hl hv
 exact slStr_own h1 h2
theorem SrcAt.of_blk {α : Type} {f : α → List Value} {w : World} {G : Nat} {x : α} {t : TypeId} {cs : Array Value} (h : w.heap[G]? = some (.cells cs t (0, 0))) (hcs : cs.toList = f x) {c : Nat} : SrcAt w f (.slice (some ⟨G, 0, none⟩) 1 c) [x] := by
 refine .inr ⟨G, 0, c, rfl, fun j u hj => ?_⟩
 rw [flatV_cons, flatV_nil, List.append_nil, ← hcs, Array.getElem?_toList] at hj
 rw [Nat.zero_add]
 exact cell_of_blkP h hj
namespace Pa
section
variable {α β : Type} {L : List Lex.Tok} {n k : Nat} {s : Bytes} {x : R β}
theorem Ev.exp_yes {q : Nat → Unit → Toks → R β} (hL : TkL L n) (hk : k ≤ n) (h : is s (rest L n k) = true) (hb : Ev (fun f => q f () (rest L n (k + 1))) x) : Ev (fun f => (expect s (rest L n k)).bind (q f)) x := by
 obtain ⟨F, hb⟩ := hb
 refine ⟨F, fun f hf => ?_⟩
 show (expect s (rest L n k)).bind (q f) = x
 rw [expect_at hL hk, h, if_pos rfl]
 exact hb f hf
theorem Ev.exp_no {q : Nat → Unit → Toks → R β} (hL : TkL L n) (hk : k ≤ n) (h : is s (rest L n k) = false) : Ev (fun f => (expect s (rest L n k)).bind (q f)) (.bad (rest L n k)) := by
 refine ⟨0, fun f _ => ?_⟩
 show (expect s (rest L n k)).bind (q f) = _
 rw [expect_at hL hk, h, if_neg (by decide)]
 rfl
theorem Ev.word_yes {K : Nat} {t : Lex.Tok} {q : Nat → ByteArray → Toks → R β} (hlt : k < n) (ht : L[k]? = some t) (h : t.kind = K) (hb : Ev (fun f => q f ⟨t.text.toArray⟩ (rest L n (k + 1))) x) : Ev (fun f => (word K (rest L n k)).bind (q f)) x := by
 obtain ⟨F, hb⟩ := hb
 refine ⟨F, fun f hf => ?_⟩
 show (word K (rest L n k)).bind (q f) = x
 rw [word_at hlt ht h]
 exact hb f hf
theorem Ev.word_no {K : Nat} {t : Lex.Tok} {q : Nat → ByteArray → Toks → R β} (hL : TkL L n) (hk : k ≤ n) (ht : L[k]? = some t) (h : t.kind ≠ K) : Ev (fun f => (word K (rest L n k)).bind (q f)) (.bad (rest L n k)) := by
 refine ⟨0, fun f _ => ?_⟩
 show (word K (rest L n k)).bind (q f) = _
 rw [word_other hL hk ht h]
 rfl
end
end Pa
theorem gr_row {a b c : World} {r r2 : Option Nat} (h : a.grownBy b r) (hc : b.grownBy c r2) (hq : ∀ q, r2 = some q → a.heap.size ≤ q) : a.grownBy c r :=
 ⟨hc.os.trans h.os, hc.tape.trans h.tape, hc.output.trans h.output, Nat.le_trans h.size hc.size, fun i hi hn => (hc.block i (Nat.lt_of_lt_of_le hi h.size) (fun e => by have := hq i e.symm; omega)).trans (h.block i hi hn)⟩
section
variable {α β γ : Type} {f : α → List Value} {kk : Nat} {t : TypeId} {ok : World → α → Prop} {B : Nat} {l : List Nat} {W : World} {v : Value} {tr : List α}
theorem RowOk.ne (h : RowOk f kk t ok B l W v tr) {q : Nat} (hq : q < B) : some q ≠ v.ownBlock := fun e => by
 have := (h.ge e.symm).1
 omega
end
end Go.Proofs.YtdckddkalgnlpaaGreatDoor
