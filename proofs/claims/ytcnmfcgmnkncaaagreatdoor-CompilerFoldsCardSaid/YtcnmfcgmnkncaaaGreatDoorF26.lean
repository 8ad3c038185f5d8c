/-
  fold of the reference, walked.
-/
import Derived.Test.YtcnmfcgmnkncaaaGreatDoorF6
import Derived.Test.YtcnmfcgmnkncaaaGreatDoorF25
import Derived.Test.YtcnmfcgmnkncaaaGreatDoorF11
namespace Go.Proofs.YtcnmfcgmnkncaaaGreatDoor
namespace Cw
open Go.RowKit Go.Maps Pw
set_option maxRecDepth 100000 in
set_option maxHeartbeats 40000000 in
theorem foldR_any : ∀ (d : Nat) (e : Tr.E) (a : Value) (w : World), e.deep ≤ d → Co.wE e ≤ 900000 → Tr.validE e = true → BdE e → SlE w a e.args → Calls Tryz.prog 43 #[exprV e a] w (FP (Co.fold e) w) := by
 intro d
 induction d with
 | zero => intro e a w hd; have := e.deep_pos; omega
 | succ d ih =>
   intro e a w hd hw hv hbd hS
   obtain ⟨i0, hi0, hz0, hz1, hz2⟩ := info_parts exprInfo
   obtain ⟨k, o, i, nm, at_, l⟩ := e
   have hvl := (Co.valid_kind hv).1
   have hS' : SlE w a l := hS
   obtain ⟨p, c, rfl, _⟩ := hS'.form
   have hNw : l.length ≤ 900000 := Nat.le_trans (wE_len (e := .mk k o i nm at_ l)) hw
   obtain ⟨N, hN⟩ : ∃ q, l.length = q := ⟨_, rfl⟩
   rw [hN] at hS' hNw
   have HIH : Hid (∀ (j : Nat) (x : Tr.E) (aa : Value) (W : World), l[j]? = some x → BdE x → SlE W aa x.args → Calls Tryz.prog 43 #[exprV x aa] W (FP (Co.fold x) W)) := Lib.hid (fun j x aa W hj hb hs => ih x aa W (Tr.E.deep_args hd (e := .mk k o i nm at_ l) hj) (Nat.le_trans (Nat.le_trans (wEs_get hj) (wE_args (e := .mk k o i nm at_ l))) hw) (validEs_get hvl hj) hb hs)
   have HBD : Hid (BdE (.mk k o i nm at_ (Co.folds l))) := Lib.hid ⟨hbd.kind, hbd.op, hbd.int, hbd.name⟩
   have HBK := Lib.hid hbd
   have HS := Lib.hid hS'
   have HN := Lib.hid hN
   have HV := Lib.hid hv
   obtain ⟨X, hX⟩ : ∃ q, Co.fold (.mk k o i nm at_ l) = q := ⟨_, rfl⟩
   rw [hX]
   have HX : Hid (Co.top (.mk k o i nm at_ (Co.folds l)) = X) := Lib.hid (by rw [← hX, Co.fold])
   unfold exprV
   simp only [Tr.E.kind, Tr.E.op, Tr.E.int, Tr.E.name, Tr.E.at_]
   rw [hN]
   have C0 := Lib.hid (My.start w)
   clear hd hw hv hbd hS hS' hvl hN hX ih
   obtain ⟨E, w38, HX38, HW38, hx38, C38⟩ := C0.out.boxE #[.int .i64 k, .int .i64 o, .int .i64 i, .string nm, .bool at_, .slice p N c] 37
   obtain ⟨R, w39, HX39, HW39, hx39, C39⟩ := C38.out.boxE #[.int .i64 0, .int .i64 0, .int .i64 0, .string ⟨#[]⟩, .bool false, .slice none 0 0] 37
   have HY39 : Hid (R = E + 1) := Lib.hid (by rw [HX39.out, HW38.out, HX38.out]; simp)
   go_enter Tryz.func43, Tryz.ntmps43
   go_upto_region 1 with fail
   rw [← HX38.out, ← HW38.out, ← HY39.out, ← HW39.out]
   clear HX38 HW38 C0 HY39 HX39 HW39 C38
   obtain ⟨l1, c1_0, f1_0, c1_1, f1_1, c1_2, f1_2, c1_3, f1_3, c1_4, f1_4, c1_5, f1_5⟩ := cells6 (C39.out.b 1 rfl)
   go_wp2_with fail
   obtain ⟨wm, HWM⟩ : ∃ q, Hid (q = w39.alloc (.cells #[] 37)) := ⟨_, Lib.hid rfl⟩
   rw [← HWM.out]
   have HR0 : Hid (RowOk eCells 6 37 ReadET w.heap.size [R, E] wm (.slice (some ⟨w39.heap.size, 0, none⟩) 0 0) []) := Lib.hid (RowOk.made (by rw [HWM.out]; have h9 := own_empty w39 37 6; exact ⟨h9.1, by rcases h9.2 with h8 | ⟨g, cap, cur, e1, _, e3⟩; exact .inl h8; exact .inr ⟨g, cap, cur, e1, by injection e1 with e1; injection e1 with e1; injection e1 with e1; rw [← e1]; exact C39.out.le, e3⟩⟩) (fun q hq => (C39.out.lts hq).2.1))
   have CM := Lib.hid (C39.out.below (W' := wm) (by rw [HWM.out]; exact below_box _ _))
   clear HWM l1 c1_0 f1_0 c1_1 f1_1 c1_2 f1_2 c1_3 f1_3 c1_4 f1_4 c1_5 f1_5
   go_loopg [3, 4] N (fun gg s3 s4 wr => ∃ j : Nat, s4 = .int .i64 j ∧ j ≤ N ∧ gg = N - j ∧ ∃ tr : List ET, Hid (tr.map Prod.fst = Co.folds (l.take j)) ∧ Hid (My w [(R, #[.int .i64 0, .int .i64 0, .int .i64 0, .string ⟨#[]⟩, .bool false, .slice none 0 0], 37), (E, #[.int .i64 k, .int .i64 o, .int .i64 i, .string nm, .bool at_, .slice p N c], 37)] [] wr) ∧ Hid (RowOk eCells 6 37 ReadET w.heap.size [R, E] wr s3 tr))
   case atStart => exact ⟨0, rfl, Nat.zero_le _, rfl, [], Lib.hid (by rw [List.take_zero, Co.folds]; rfl), CM, HR0⟩
   case round =>
    clear CM HR0
    obtain ⟨j, rfl, hj, rfl, tr, HTR, CR, HST⟩ := hrel
    have htl : tr.length = j := by
     have h9 := congrArg List.length HTR.out
     rw [List.length_map, Co.folds_len, List.length_take, HN.out] at h9
     omega
    obtain ⟨pq, cq, rfl⟩ := own_form HST.out.own
    rw [htl] at HST ⊢
    have HTL := Lib.hid htl
    clear htl
    by_cases hlt : j < N
    ·obtain ⟨x, hx⟩ : ∃ x, l[j]? = some x := ⟨_, List.getElem?_eq_getElem (by rw [HN.out]; exact hlt)⟩
     obtain ⟨b, oo, aa, rfl, hblt, hc, hbdx, hsl⟩ := (HS.out.keep (My.fin CR.out)).get hx
     obtain ⟨x0, x1, x2, x3, x4, x5⟩ := hc
     obtain ⟨pa0, ca0, rfl, _⟩ := hsl.form
     obtain ⟨AX, hAX⟩ : ∃ N, x.args.length = N := ⟨_, rfl⟩
     rw [hAX] at x5
     have hbdf := hbdx
     have HFS : Hid (Co.folds (l.take (j + 1)) = Co.folds (l.take j) ++ [Co.fold x]) := Lib.hid (folds_step hx)
     have b3j : (j : Int) < (N : Int) := by omega
     have b0j : (0 : Int) ≤ (j : Int) := by omega
     have C4 := CR
     have HST4 := HST
     have KI := Lib.hid (HIH.out j x (.slice pa0 AX ca0) wr hx hbdx (by have := hsl; rw [hAX] at this; exact this))
     unfold exprV at KI
     obtain ⟨l1, c1_0, f1_0, c1_1, f1_1, c1_2, f1_2, c1_3, f1_3, c1_4, f1_4, c1_5, f1_5⟩ := cells6 (CR.out.b 1 rfl)
     clear hsl hx hbdx hbdf hAX HST CR
     go_wp2_with fail
     refine KI.out.mono ?_
     rintro e w5 ⟨a', rfl, hbdy, hsy, hb5⟩
     obtain ⟨py, cy, rfl, _⟩ := hsy.form
     obtain ⟨y, hy⟩ : ∃ q, Co.fold x = q := ⟨_, rfl⟩
     rw [hy] at HFS hbdy hsy ⊢
     obtain ⟨AN, hAN⟩ : ∃ N, y.args.length = N := ⟨_, rfl⟩
     rw [hAN] at hsy ⊢
     obtain ⟨w6, HW6⟩ : ∃ q, Hid (q = w5.alloc (.cells #[.int .i64 y.kind, .int .i64 y.op, .int .i64 y.int, .string y.name, .bool y.at_, .slice py AN cy] 37)) := ⟨_, Lib.hid rfl⟩
     obtain ⟨h1, h2, h3, h4, h5, h6, h7⟩ := My.newE C4.out HST4.out hb5 hbdy hsy HW6.out
     have C6 := Lib.hid h1
     have HST6 := Lib.hid h2
     have HSRC := Lib.hid h3
     have HNEW := Lib.hid h4
     have HONE := Lib.hid h5
     have HBS := Lib.hid h6
     have HLW := Lib.hid h7
     unfold exprV
     clear h1 h2 h3 h4 h5 h6 h7 hbdy hsy hb5 hAN hy KI C4 HST4 x0 x1 x2 x3 x4 x5
     have HLEN : Hid (tr.length ≤ 900000) := Lib.hid (by rw [HTL.out]; omega)
     go_wp2_with (at_builtin; rw [← HW6.out]; refine wpList_push eCells_len readET_mono rfl _ _ 35 rfl i0 (.agg #[.int .i64 0, .int .i64 0, .int .i64 0, .string ⟨#[]⟩, .bool false, .slice none 0 0]) 72 Tryz.underlying35 hi0 hz0 hz1 hz2 rfl (by decide) _ _ rfl rfl HST6.out HSRC.out HNEW.out HONE.out (by have := HLEN.out; simp only [List.length_cons, List.length_nil]; unfold maxLen; omega) (by have := HLEN.out; simp only [List.length_cons, List.length_nil]; omega) HBS.out ?_ HLW.out; intro v7 w7 hr7 hg7; obtain ⟨p7, c7, rfl⟩ := own_form hr7.own; have C7 := Lib.hid (My.pushed C6.out HST6.out hg7); have HR7 := Lib.hid hr7; clear hr7 hg7)
     go_roundg (N - (j + 1))
     case measure => omega
     case rel => exact ⟨j + 1, by go_num, by omega, rfl, tr ++ [(y, .slice py AN cy)], Lib.hid (by rw [List.map_append, HTR.out, HFS.out]; rfl), C7, by rw [List.length_append] at HR7; exact HR7⟩
    ·obtain rfl : j = N := by omega
     have htr := HTR.out
     rw [List.take_of_length_le (by rw [HN.out]; exact Nat.le_refl _)] at htr
     have hc9 := My.row CR.out HST.out
     rw [htr] at hc9
     have CZ := Lib.hid hc9
     clear htr hc9 CR HST HTR HIH HTL
     obtain ⟨l1, c1_0, f1_0, c1_1, f1_1, c1_2, f1_2, c1_3, f1_3, c1_4, f1_4, c1_5, f1_5⟩ := cells6 (CZ.out.b 1 rfl)
     obtain ⟨w40, HW⟩ : ∃ q, Hid (q = (wr.setCell ⟨E, 5, none⟩ (.slice pq j cq))) := ⟨_, Lib.hid rfl⟩
     have C40 := Lib.hid ((CZ.out.set (W' := w40) 1 rfl (by rw [HW.out]; exact gr_set wr E 5 (.slice pq j cq)) (by rw [HW.out]; exact (heap_set (j := 5) (.slice pq j cq) (CZ.out.b 1 rfl)))).nrm (bs' := [(R, #[.int .i64 0, .int .i64 0, .int .i64 0, .string ⟨#[]⟩, .bool false, .slice none 0 0], 37), (E, #[.int .i64 k, .int .i64 o, .int .i64 i, .string nm, .bool at_, .slice pq j cq], 37)]) rfl)
     go_upto_region 7 with fail
     rw [← HW.out]
     clear HW CZ l1 c1_0 f1_0 c1_1 f1_1 c1_2 f1_2 c1_3 f1_3 c1_4 f1_4 c1_5 f1_5
     have HSL := Lib.hid (C40.out.rd 0 rfl)
     by_cases hk : k = 8 ∨ k = 9 ∨ k = 10
     ·rcases hk with h8 | h9 | h10
      ·subst h8
       have hN1 : j = 1 := by
        have h9 := (Co.valid_kind HV.out).2
        unfold Tr.okE at h9
        simp at h9
        have h7 := HN.out
        omega
       subst hN1
       have HVF : Hid (Tr.validEs (Co.folds l) = true) := Lib.hid (Co.folds_valid l (Co.valid_kind HV.out).1)
       obtain ⟨y0, hy0⟩ : ∃ y, (Co.folds l)[0]? = some y := ⟨_, List.getElem?_eq_getElem (by rw [Co.folds_len, HN.out]; omega)⟩
       obtain ⟨b0, o0, ay0, he0, _, hcy0, hby0, hsy0⟩ := HSL.out.get hy0
       cases he0
       obtain ⟨s0_0, s0_1, s0_2, s0_3, s0_4, s0_5⟩ := hcy0
       obtain ⟨pb0, cb0, rfl, _⟩ := hsy0.form
       obtain ⟨NB0, hNB0⟩ : ∃ q, y0.args.length = q := ⟨_, rfl⟩
       have HK0 := Lib.hid (constR_any y0 (.slice pb0 y0.args.length cb0) w40 hby0 hsy0 (h8_r HVF.out hy0))
       have HCB0 : Hid (∀ v, Co.const y0 = some v → -2305843009213693951 ≤ v ∧ v ≤ 2305843009213693951) := Lib.hid (fun v h => Co.const_bd (validEs_get HVF.out hy0) h)
       have HE0 := Lib.hid hy0
       rw [hNB0] at HK0 s0_5
       unfold exprV at HK0
       simp only [Nat.zero_mul, Nat.add_zero] at s0_0 s0_1 s0_2 s0_3 s0_4 s0_5
       clear hy0 hby0 hsy0 hNB0
       obtain ⟨l1, c1_0, f1_0, c1_1, f1_1, c1_2, f1_2, c1_3, f1_3, c1_4, f1_4, c1_5, f1_5⟩ := cells6 (C40.out.b 1 rfl)
       go_wp2_with fail
       clear l1 c1_0 f1_0 c1_1 f1_1 c1_2 f1_2 c1_3 f1_3 c1_4 f1_4 c1_5 f1_5
       refine HK0.out.mono ?_
       rintro e w41 ⟨rfl, hb⟩
       have C42 := Lib.hid (C40.out.below hb)
       clear C40
       clear hb
       clear s0_0 s0_1 s0_2 s0_3 s0_4 s0_5 HK0
       have HSL41 := Lib.hid (C42.out.rd 0 rfl)
       clear HSL
       have HSL := HSL41
       clear HSL41
       cases hcn0 : Co.const y0 with
       | none =>
         have HCN0 := Lib.hid hcn0
         clear hcn0 HCB0
         simp only [Option.getD_none, Option.isSome_none]
         have hxe : X = .mk 8 o i nm at_ (Co.folds l) := by
          rw [← HX.out]
          unfold Co.top
          dsimp only
          rw [if_pos (by omega)]
          have hh0 : ((Co.folds l).head?.bind Co.const : Option Int) = Co.const y0 := by rw [List.head?_eq_getElem?, HE0.out]; rfl
          rw [hh0, HCN0.out]
          try dsimp only
         subst hxe
         obtain ⟨l1, c1_0, f1_0, c1_1, f1_1, c1_2, f1_2, c1_3, f1_3, c1_4, f1_4, c1_5, f1_5⟩ := cells6 (C42.out.b 1 rfl)
         obtain ⟨l0, c0_0, f0_0, c0_1, f0_1, c0_2, f0_2, c0_3, f0_3, c0_4, f0_4, c0_5, f0_5⟩ := cells6 (C42.out.b 0 rfl)
         go_wp2_with fail
         exact My.retE C42.out (a := .slice (some ⟨b0, o0, none⟩) 1 cq) (x := .mk 8 o i nm at_ (Co.folds l)) 0 rfl Tryz.results43 rfl rfl HBD.out
       | some v0 =>
         have HCN0 := Lib.hid hcn0
         have hvb0 := HCB0.out _ hcn0
         clear hcn0 HCB0
         simp only [Option.getD_some, Option.isSome_some]
         have hxe : X = Co.repl (.mk 8 o i nm at_ (Co.folds l)) (-v0) := by
          rw [← HX.out]
          unfold Co.top
          dsimp only
          rw [if_pos (by omega)]
          have hh0 : ((Co.folds l).head?.bind Co.const : Option Int) = Co.const y0 := by rw [List.head?_eq_getElem?, HE0.out]; rfl
          rw [hh0, HCN0.out]
          try dsimp only
          rw [if_pos rfl]
         have HXE := Lib.hid hxe
         clear hxe
         have HQN : Hid (Q62p (-v0)) := Lib.hid ⟨by omega, by omega⟩
         have hwn : wrap64 (-v0) = -v0 := by unfold wrap64; omega
         obtain ⟨l1, c1_0, f1_0, c1_1, f1_1, c1_2, f1_2, c1_3, f1_3, c1_4, f1_4, c1_5, f1_5⟩ := cells6 (C42.out.b 1 rfl)
         obtain ⟨l0, c0_0, f0_0, c0_1, f0_1, c0_2, f0_2, c0_3, f0_3, c0_4, f0_4, c0_5, f0_5⟩ := cells6 (C42.out.b 0 rfl)
         go_wp2_with fail
         refine (replR_any (.mk 8 o i nm at_ (Co.folds l)) (-v0) (.slice (some ⟨b0, o0, none⟩) 1 cq) w41 HQN.out ⟨_, _, _, rfl⟩).mono ?_
         rintro e w44 hp9
         obtain ⟨a9, rfl, C44⟩ := My.repl C42.out hp9
         clear hp9 C42
         obtain ⟨p9, c9, rfl, _⟩ := (C44.out.rd 0 rfl).form
         have HBR := Lib.hid (bd_repl HBD.out HQN.out)
         rw [← HXE.out] at C44 HBR ⊢
         obtain ⟨YN, hYN⟩ : ∃ q, X.args.length = q := ⟨_, rfl⟩
         rw [hYN] at C44 ⊢
         clear hYN
         obtain ⟨l0, c0_0, f0_0, c0_1, f0_1, c0_2, f0_2, c0_3, f0_3, c0_4, f0_4, c0_5, f0_5⟩ := cells6 (C44.out.b 0 rfl)
         unfold exprV
         go_wp2_with fail
         exact My.retE C44.out (x := X) (a := .slice p9 YN c9) 0 rfl Tryz.results43 rfl rfl HBR.out
      ·subst h9
       have hN1 : j = 1 := by
        have h9 := (Co.valid_kind HV.out).2
        unfold Tr.okE at h9
        simp at h9
        have h7 := HN.out
        omega
       subst hN1
       have HVF : Hid (Tr.validEs (Co.folds l) = true) := Lib.hid (Co.folds_valid l (Co.valid_kind HV.out).1)
       obtain ⟨y0, hy0⟩ : ∃ y, (Co.folds l)[0]? = some y := ⟨_, List.getElem?_eq_getElem (by rw [Co.folds_len, HN.out]; omega)⟩
       obtain ⟨b0, o0, ay0, he0, _, hcy0, hby0, hsy0⟩ := HSL.out.get hy0
       cases he0
       obtain ⟨s0_0, s0_1, s0_2, s0_3, s0_4, s0_5⟩ := hcy0
       obtain ⟨pb0, cb0, rfl, _⟩ := hsy0.form
       obtain ⟨NB0, hNB0⟩ : ∃ q, y0.args.length = q := ⟨_, rfl⟩
       have HK0 := Lib.hid (constR_any y0 (.slice pb0 y0.args.length cb0) w40 hby0 hsy0 (h8_r HVF.out hy0))
       have HCB0 : Hid (∀ v, Co.const y0 = some v → -2305843009213693951 ≤ v ∧ v ≤ 2305843009213693951) := Lib.hid (fun v h => Co.const_bd (validEs_get HVF.out hy0) h)
       have HE0 := Lib.hid hy0
       rw [hNB0] at HK0 s0_5
       unfold exprV at HK0
       simp only [Nat.zero_mul, Nat.add_zero] at s0_0 s0_1 s0_2 s0_3 s0_4 s0_5
       clear hy0 hby0 hsy0 hNB0
       obtain ⟨l1, c1_0, f1_0, c1_1, f1_1, c1_2, f1_2, c1_3, f1_3, c1_4, f1_4, c1_5, f1_5⟩ := cells6 (C40.out.b 1 rfl)
       go_wp2_with fail
       clear l1 c1_0 f1_0 c1_1 f1_1 c1_2 f1_2 c1_3 f1_3 c1_4 f1_4 c1_5 f1_5
       refine HK0.out.mono ?_
       rintro e w45 ⟨rfl, hb⟩
       have C46 := Lib.hid (C40.out.below hb)
       clear C40
       clear hb
       clear s0_0 s0_1 s0_2 s0_3 s0_4 s0_5 HK0
       have HSL45 := Lib.hid (C46.out.rd 0 rfl)
       clear HSL
       have HSL := HSL45
       clear HSL45
       cases hcn0 : Co.const y0 with
       | none =>
         have HCN0 := Lib.hid hcn0
         clear hcn0 HCB0
         simp only [Option.getD_none, Option.isSome_none]
         have hxe : X = .mk 9 o i nm at_ (Co.folds l) := by
          rw [← HX.out]
          unfold Co.top
          dsimp only
          rw [if_pos (by omega)]
          have hh0 : ((Co.folds l).head?.bind Co.const : Option Int) = Co.const y0 := by rw [List.head?_eq_getElem?, HE0.out]; rfl
          rw [hh0, HCN0.out]
          try dsimp only
         subst hxe
         obtain ⟨l1, c1_0, f1_0, c1_1, f1_1, c1_2, f1_2, c1_3, f1_3, c1_4, f1_4, c1_5, f1_5⟩ := cells6 (C46.out.b 1 rfl)
         obtain ⟨l0, c0_0, f0_0, c0_1, f0_1, c0_2, f0_2, c0_3, f0_3, c0_4, f0_4, c0_5, f0_5⟩ := cells6 (C46.out.b 0 rfl)
         go_wp2_with fail
         exact My.retE C46.out (a := .slice (some ⟨b0, o0, none⟩) 1 cq) (x := .mk 9 o i nm at_ (Co.folds l)) 0 rfl Tryz.results43 rfl rfl HBD.out
       | some v0 =>
         have HCN0 := Lib.hid hcn0
         have hvb0 := HCB0.out _ hcn0
         clear hcn0 HCB0
         simp only [Option.getD_some, Option.isSome_some]
         have hxe : X = Co.repl (.mk 9 o i nm at_ (Co.folds l)) (Co.bit (v0 == 0)) := by
          rw [← HX.out]
          unfold Co.top
          dsimp only
          rw [if_pos (by omega)]
          have hh0 : ((Co.folds l).head?.bind Co.const : Option Int) = Co.const y0 := by rw [List.head?_eq_getElem?, HE0.out]; rfl
          rw [hh0, HCN0.out]
          try dsimp only
          rw [if_neg (by decide), if_pos rfl]
         have HXE := Lib.hid hxe
         clear hxe
         have HQN : Hid (Q62p (Co.bit (v0 == 0))) := Lib.hid (q62_bit _)
         obtain ⟨l1, c1_0, f1_0, c1_1, f1_1, c1_2, f1_2, c1_3, f1_3, c1_4, f1_4, c1_5, f1_5⟩ := cells6 (C46.out.b 1 rfl)
         go_upto_region 15 with fail
         clear l1 c1_0 f1_0 c1_1 f1_1 c1_2 f1_2 c1_3 f1_3 c1_4 f1_4 c1_5 f1_5
         obtain ⟨w48, HW, C48⟩ := C46.out.drewE
         refine wp_region_held_drew (S := fun _ => True) (by kernel_rfl) trivial (fun _ => ?_)
         rw [← HW.out]
         clear HW C46
         refine rT 0 (some 64) ?_
         try simp only [Act.put, q0, q1, q2]
         refine rT 1 (some 65) ?_
         try simp only [Act.put, q0, q1, q2]
         refine rR2 2 (some 66) 3 (some 67) (fun K hK => ?_) (fun K hK => ?_)
         ·go_simp
          refine (bitR_any (v0 == 0) w48).mono ?_
          rintro e w' ⟨rfl, hww⟩
          rw [hww]
          clear hww w'
          go_wp2_with fail
          refine hK.out _ _ trivial (fun _ => ?_)
          clear hK K
          try simp only [Act.put, q0, q1, q2]
          refine rR1 3 (some 67) (fun K hK => ?_)
          obtain ⟨l1, c1_0, f1_0, c1_1, f1_1, c1_2, f1_2, c1_3, f1_3, c1_4, f1_4, c1_5, f1_5⟩ := cells6 (C48.out.b 1 rfl)
          go_simp
          refine hK.out _ _ trivial (fun _ => ?_)
          clear hK K
          try simp only [Act.put, q0, q1, q2]
          clear l1 c1_0 f1_0 c1_1 f1_1 c1_2 f1_2 c1_3 f1_3 c1_4 f1_4 c1_5 f1_5
          refine rR1 4 (some 68) (fun K hK => ?_)
          go_simp
          refine (replR_any (.mk 9 o i nm at_ (Co.folds l)) (Co.bit (v0 == 0)) (.slice (some ⟨b0, o0, none⟩) 1 cq) w48 HQN.out ⟨_, _, _, rfl⟩).mono ?_
          rintro e w49 hp9
          obtain ⟨a9, rfl, C49⟩ := My.repl C48.out hp9
          clear hp9 C48
          obtain ⟨p9, c9, rfl, _⟩ := (C49.out.rd 0 rfl).form
          have HBR := Lib.hid (bd_repl HBD.out HQN.out)
          rw [← HXE.out] at C49 HBR ⊢
          obtain ⟨YN, hYN⟩ : ∃ q, X.args.length = q := ⟨_, rfl⟩
          rw [hYN] at C49 ⊢
          clear hYN
          unfold exprV
          go_wp2_with fail
          refine hK.out _ _ trivial (fun _ => ?_)
          clear hK K
          try simp only [Act.put, q0, q1, q2]
          refine rR1 5 none (fun K hK => ?_)
          obtain ⟨l0, c0_0, f0_0, c0_1, f0_1, c0_2, f0_2, c0_3, f0_3, c0_4, f0_4, c0_5, f0_5⟩ := cells6 (C49.out.b 0 rfl)
          go_simp
          refine hK.out _ _ trivial (fun _ => ?_)
          clear hK K
          try simp only [Act.put, q0, q1, q2]
          refine wpAnyH_done (by kernel_rfl) ?_ _
          go_wp2_with fail
          exact My.retE C49.out (x := X) (a := .slice p9 YN c9) 0 rfl Tryz.results43 rfl rfl HBR.out
         ·obtain ⟨l1, c1_0, f1_0, c1_1, f1_1, c1_2, f1_2, c1_3, f1_3, c1_4, f1_4, c1_5, f1_5⟩ := cells6 (C48.out.b 1 rfl)
          go_simp
          refine hK.out _ _ trivial (fun _ => ?_)
          clear hK K
          try simp only [Act.put, q0, q1, q2]
          clear l1 c1_0 f1_0 c1_1 f1_1 c1_2 f1_2 c1_3 f1_3 c1_4 f1_4 c1_5 f1_5
          refine rR1 2 (some 66) (fun K hK => ?_)
          go_simp
          refine (bitR_any (v0 == 0) w48).mono ?_
          rintro e w' ⟨rfl, hww⟩
          rw [hww]
          clear hww w'
          go_wp2_with fail
          refine hK.out _ _ trivial (fun _ => ?_)
          clear hK K
          try simp only [Act.put, q0, q1, q2]
          refine rR1 4 (some 68) (fun K hK => ?_)
          go_simp
          refine (replR_any (.mk 9 o i nm at_ (Co.folds l)) (Co.bit (v0 == 0)) (.slice (some ⟨b0, o0, none⟩) 1 cq) w48 HQN.out ⟨_, _, _, rfl⟩).mono ?_
          rintro e w50 hp9
          obtain ⟨a9, rfl, C50⟩ := My.repl C48.out hp9
          clear hp9 C48
          obtain ⟨p9, c9, rfl, _⟩ := (C50.out.rd 0 rfl).form
          have HBR := Lib.hid (bd_repl HBD.out HQN.out)
          rw [← HXE.out] at C50 HBR ⊢
          obtain ⟨YN, hYN⟩ : ∃ q, X.args.length = q := ⟨_, rfl⟩
          rw [hYN] at C50 ⊢
          clear hYN
          unfold exprV
          go_wp2_with fail
          refine hK.out _ _ trivial (fun _ => ?_)
          clear hK K
          try simp only [Act.put, q0, q1, q2]
          refine rR1 5 none (fun K hK => ?_)
          obtain ⟨l0, c0_0, f0_0, c0_1, f0_1, c0_2, f0_2, c0_3, f0_3, c0_4, f0_4, c0_5, f0_5⟩ := cells6 (C50.out.b 0 rfl)
          go_simp
          refine hK.out _ _ trivial (fun _ => ?_)
          clear hK K
          try simp only [Act.put, q0, q1, q2]
          refine wpAnyH_done (by kernel_rfl) ?_ _
          go_wp2_with fail
          exact My.retE C50.out (x := X) (a := .slice p9 YN c9) 0 rfl Tryz.results43 rfl rfl HBR.out
      ·subst h10
       have hN2 : j = 2 := by
        have h9 := (Co.valid_kind HV.out).2
        unfold Tr.okE at h9
        simp at h9
        have h7 := HN.out
        omega
       subst hN2
       have ho := (Co.bin_len HV.out).2
       have HVF : Hid (Tr.validEs (Co.folds l) = true) := Lib.hid (Co.folds_valid l (Co.valid_kind HV.out).1)
       obtain ⟨y0, hy0⟩ : ∃ y, (Co.folds l)[0]? = some y := ⟨_, List.getElem?_eq_getElem (by rw [Co.folds_len, HN.out]; omega)⟩
       obtain ⟨b0, o0, ay0, he0, _, hcy0, hby0, hsy0⟩ := HSL.out.get hy0
       cases he0
       obtain ⟨s0_0, s0_1, s0_2, s0_3, s0_4, s0_5⟩ := hcy0
       obtain ⟨pb0, cb0, rfl, _⟩ := hsy0.form
       obtain ⟨NB0, hNB0⟩ : ∃ q, y0.args.length = q := ⟨_, rfl⟩
       have HK0 := Lib.hid (constR_any y0 (.slice pb0 y0.args.length cb0) w40 hby0 hsy0 (h8_r HVF.out hy0))
       have HCB0 : Hid (∀ v, Co.const y0 = some v → -2305843009213693951 ≤ v ∧ v ≤ 2305843009213693951) := Lib.hid (fun v h => Co.const_bd (validEs_get HVF.out hy0) h)
       have HE0 := Lib.hid hy0
       rw [hNB0] at HK0 s0_5
       unfold exprV at HK0
       simp only [Nat.zero_mul, Nat.add_zero] at s0_0 s0_1 s0_2 s0_3 s0_4 s0_5
       clear hy0 hby0 hsy0 hNB0
       obtain ⟨l1, c1_0, f1_0, c1_1, f1_1, c1_2, f1_2, c1_3, f1_3, c1_4, f1_4, c1_5, f1_5⟩ := cells6 (C40.out.b 1 rfl)
       go_wp2_with fail
       clear l1 c1_0 f1_0 c1_1 f1_1 c1_2 f1_2 c1_3 f1_3 c1_4 f1_4 c1_5 f1_5
       refine HK0.out.mono ?_
       rintro e w51 ⟨rfl, hb⟩
       have C52 := Lib.hid (C40.out.below hb)
       clear C40
       clear hb
       clear s0_0 s0_1 s0_2 s0_3 s0_4 s0_5 HK0
       have HSL51 := Lib.hid (C52.out.rd 0 rfl)
       clear HSL
       have HSL := HSL51
       clear HSL51
       cases hcn0 : Co.const y0 with
       | none =>
         have HCN0 := Lib.hid hcn0
         clear hcn0 HCB0
         simp only [Option.getD_none, Option.isSome_none]
         have hxe : X = .mk 10 o i nm at_ (Co.folds l) := by
          rw [← HX.out]
          unfold Co.top
          dsimp only
          rw [if_pos (by omega)]
          have hh0 : ((Co.folds l).head?.bind Co.const : Option Int) = Co.const y0 := by rw [List.head?_eq_getElem?, HE0.out]; rfl
          rw [hh0, HCN0.out]
          try dsimp only
         subst hxe
         obtain ⟨l1, c1_0, f1_0, c1_1, f1_1, c1_2, f1_2, c1_3, f1_3, c1_4, f1_4, c1_5, f1_5⟩ := cells6 (C52.out.b 1 rfl)
         obtain ⟨l0, c0_0, f0_0, c0_1, f0_1, c0_2, f0_2, c0_3, f0_3, c0_4, f0_4, c0_5, f0_5⟩ := cells6 (C52.out.b 0 rfl)
         go_wp2_with fail
         exact My.retE C52.out (a := .slice (some ⟨b0, o0, none⟩) 2 cq) (x := .mk 10 o i nm at_ (Co.folds l)) 0 rfl Tryz.results43 rfl rfl HBD.out
       | some v0 =>
         have HCN0 := Lib.hid hcn0
         have hvb0 := HCB0.out _ hcn0
         clear hcn0 HCB0
         simp only [Option.getD_some, Option.isSome_some]
         obtain ⟨y1, hy1⟩ : ∃ y, (Co.folds l)[1]? = some y := ⟨_, List.getElem?_eq_getElem (by rw [Co.folds_len, HN.out]; omega)⟩
         obtain ⟨b1, o1, ay1, he1, _, hcy1, hby1, hsy1⟩ := HSL.out.get hy1
         cases he1
         obtain ⟨s1_0, s1_1, s1_2, s1_3, s1_4, s1_5⟩ := hcy1
         obtain ⟨pb1, cb1, rfl, _⟩ := hsy1.form
         obtain ⟨NB1, hNB1⟩ : ∃ q, y1.args.length = q := ⟨_, rfl⟩
         have HK1 := Lib.hid (constR_any y1 (.slice pb1 y1.args.length cb1) w51 hby1 hsy1 (h8_r HVF.out hy1))
         have HCB1 : Hid (∀ v, Co.const y1 = some v → -2305843009213693951 ≤ v ∧ v ≤ 2305843009213693951) := Lib.hid (fun v h => Co.const_bd (validEs_get HVF.out hy1) h)
         have HE1 := Lib.hid hy1
         rw [hNB1] at HK1 s1_5
         unfold exprV at HK1
         simp only [Nat.one_mul] at s1_0 s1_1 s1_2 s1_3 s1_4 s1_5
         clear hy1 hby1 hsy1 hNB1
         obtain ⟨l1, c1_0, f1_0, c1_1, f1_1, c1_2, f1_2, c1_3, f1_3, c1_4, f1_4, c1_5, f1_5⟩ := cells6 (C52.out.b 1 rfl)
         go_wp2_with fail
         clear l1 c1_0 f1_0 c1_1 f1_1 c1_2 f1_2 c1_3 f1_3 c1_4 f1_4 c1_5 f1_5
         refine HK1.out.mono ?_
         rintro e w53 ⟨rfl, hb⟩
         have C54 := Lib.hid (C52.out.below hb)
         clear C52
         clear hb
         clear s1_0 s1_1 s1_2 s1_3 s1_4 s1_5 HK1
         have HSL53 := Lib.hid (C54.out.rd 0 rfl)
         clear HSL
         have HSL := HSL53
         clear HSL53
         cases hcn1 : Co.const y1 with
         | none =>
           have HCN1 := Lib.hid hcn1
           clear hcn1 HCB1
           simp only [Option.getD_none, Option.isSome_none]
           by_cases h11 : o = 11
           ·subst h11
            by_cases hv0 : v0 = 0
            ·subst hv0
             have hxe : X = Co.repl (.mk 10 11 i nm at_ (Co.folds l)) (Co.bit (false)) := by
              rw [← HX.out]
              unfold Co.top
              dsimp only
              rw [if_pos (by omega)]
              have hh0 : ((Co.folds l).head?.bind Co.const : Option Int) = Co.const y0 := by rw [List.head?_eq_getElem?, HE0.out]; rfl
              rw [hh0, HCN0.out]
              try dsimp only
              rw [if_neg (by decide), if_neg (by decide)]
              rw [if_pos ⟨rfl, rfl⟩]
              rfl
             have HXE := Lib.hid hxe
             clear hxe
             have HQN : Hid (Q62p (Co.bit (false))) := Lib.hid (q62_bit _)
             obtain ⟨l1, c1_0, f1_0, c1_1, f1_1, c1_2, f1_2, c1_3, f1_3, c1_4, f1_4, c1_5, f1_5⟩ := cells6 (C54.out.b 1 rfl)
             go_upto_region 18 with fail
             clear l1 c1_0 f1_0 c1_1 f1_1 c1_2 f1_2 c1_3 f1_3 c1_4 f1_4 c1_5 f1_5
             obtain ⟨w56, HW, C56⟩ := C54.out.drewE
             refine wp_region_held_drew (S := fun _ => True) (by kernel_rfl) trivial (fun _ => ?_)
             rw [← HW.out]
             clear HW C54
             refine rT 0 (some 92) ?_
             try simp only [Act.put, q0, q1, q2]
             refine rT 1 (some 93) ?_
             try simp only [Act.put, q0, q1, q2]
             refine rR2 2 (some 94) 3 (some 95) (fun K hK => ?_) (fun K hK => ?_)
             ·go_simp
              refine (bitR_any (false) w56).mono ?_
              rintro e w' ⟨rfl, hww⟩
              rw [hww]
              clear hww w'
              go_wp2_with fail
              refine hK.out _ _ trivial (fun _ => ?_)
              clear hK K
              try simp only [Act.put, q0, q1, q2]
              refine rR1 3 (some 95) (fun K hK => ?_)
              obtain ⟨l1, c1_0, f1_0, c1_1, f1_1, c1_2, f1_2, c1_3, f1_3, c1_4, f1_4, c1_5, f1_5⟩ := cells6 (C56.out.b 1 rfl)
              go_simp
              refine hK.out _ _ trivial (fun _ => ?_)
              clear hK K
              try simp only [Act.put, q0, q1, q2]
              clear l1 c1_0 f1_0 c1_1 f1_1 c1_2 f1_2 c1_3 f1_3 c1_4 f1_4 c1_5 f1_5
              refine rR1 4 (some 96) (fun K hK => ?_)
              go_simp
              refine (replR_any (.mk 10 11 i nm at_ (Co.folds l)) (Co.bit (false)) (.slice (some ⟨b0, o0, none⟩) 2 cq) w56 HQN.out ⟨_, _, _, rfl⟩).mono ?_
              rintro e w57 hp9
              obtain ⟨a9, rfl, C57⟩ := My.repl C56.out hp9
              clear hp9 C56
              obtain ⟨p9, c9, rfl, _⟩ := (C57.out.rd 0 rfl).form
              have HBR := Lib.hid (bd_repl HBD.out HQN.out)
              rw [← HXE.out] at C57 HBR ⊢
              obtain ⟨YN, hYN⟩ : ∃ q, X.args.length = q := ⟨_, rfl⟩
              rw [hYN] at C57 ⊢
              clear hYN
              unfold exprV
              go_wp2_with fail
              refine hK.out _ _ trivial (fun _ => ?_)
              clear hK K
              try simp only [Act.put, q0, q1, q2]
              refine rR1 5 none (fun K hK => ?_)
              obtain ⟨l0, c0_0, f0_0, c0_1, f0_1, c0_2, f0_2, c0_3, f0_3, c0_4, f0_4, c0_5, f0_5⟩ := cells6 (C57.out.b 0 rfl)
              go_simp
              refine hK.out _ _ trivial (fun _ => ?_)
              clear hK K
              try simp only [Act.put, q0, q1, q2]
              refine wpAnyH_done (by kernel_rfl) ?_ _
              go_wp2_with fail
              exact My.retE C57.out (x := X) (a := .slice p9 YN c9) 0 rfl Tryz.results43 rfl rfl HBR.out
             ·obtain ⟨l1, c1_0, f1_0, c1_1, f1_1, c1_2, f1_2, c1_3, f1_3, c1_4, f1_4, c1_5, f1_5⟩ := cells6 (C56.out.b 1 rfl)
              go_simp
              refine hK.out _ _ trivial (fun _ => ?_)
              clear hK K
              try simp only [Act.put, q0, q1, q2]
              clear l1 c1_0 f1_0 c1_1 f1_1 c1_2 f1_2 c1_3 f1_3 c1_4 f1_4 c1_5 f1_5
              refine rR1 2 (some 94) (fun K hK => ?_)
              go_simp
              refine (bitR_any (false) w56).mono ?_
              rintro e w' ⟨rfl, hww⟩
              rw [hww]
              clear hww w'
              go_wp2_with fail
              refine hK.out _ _ trivial (fun _ => ?_)
              clear hK K
              try simp only [Act.put, q0, q1, q2]
              refine rR1 4 (some 96) (fun K hK => ?_)
              go_simp
              refine (replR_any (.mk 10 11 i nm at_ (Co.folds l)) (Co.bit (false)) (.slice (some ⟨b0, o0, none⟩) 2 cq) w56 HQN.out ⟨_, _, _, rfl⟩).mono ?_
              rintro e w58 hp9
              obtain ⟨a9, rfl, C58⟩ := My.repl C56.out hp9
              clear hp9 C56
              obtain ⟨p9, c9, rfl, _⟩ := (C58.out.rd 0 rfl).form
              have HBR := Lib.hid (bd_repl HBD.out HQN.out)
              rw [← HXE.out] at C58 HBR ⊢
              obtain ⟨YN, hYN⟩ : ∃ q, X.args.length = q := ⟨_, rfl⟩
              rw [hYN] at C58 ⊢
              clear hYN
              unfold exprV
              go_wp2_with fail
              refine hK.out _ _ trivial (fun _ => ?_)
              clear hK K
              try simp only [Act.put, q0, q1, q2]
              refine rR1 5 none (fun K hK => ?_)
              obtain ⟨l0, c0_0, f0_0, c0_1, f0_1, c0_2, f0_2, c0_3, f0_3, c0_4, f0_4, c0_5, f0_5⟩ := cells6 (C58.out.b 0 rfl)
              go_simp
              refine hK.out _ _ trivial (fun _ => ?_)
              clear hK K
              try simp only [Act.put, q0, q1, q2]
              refine wpAnyH_done (by kernel_rfl) ?_ _
              go_wp2_with fail
              exact My.retE C58.out (x := X) (a := .slice p9 YN c9) 0 rfl Tryz.results43 rfl rfl HBR.out
            ·have hvb : (v0 == 0) = false := beq_eq_false_iff_ne.2 hv0
             have hvn : (v0 != 0) = true := bne_iff_ne.2 hv0
             have hxe : X = .mk 10 11 i nm at_ (Co.folds l) := by
              rw [← HX.out]
              unfold Co.top
              dsimp only
              rw [if_pos (by omega)]
              have hh0 : ((Co.folds l).head?.bind Co.const : Option Int) = Co.const y0 := by rw [List.head?_eq_getElem?, HE0.out]; rfl
              rw [hh0, HCN0.out]
              try dsimp only
              rw [if_neg (by decide), if_neg (by decide)]
              rw [if_neg (by intro h; exact hv0 h.2), if_neg (by intro h; exact absurd h.1 (by decide))]
              have hh1 : (((Co.folds l).drop 1).head?.bind Co.const : Option Int) = Co.const y1 := by rw [List.head?_eq_getElem?, List.getElem?_drop, HE1.out]; rfl
              rw [hh1, HCN1.out]
              try dsimp only
             subst hxe
             obtain ⟨l1, c1_0, f1_0, c1_1, f1_1, c1_2, f1_2, c1_3, f1_3, c1_4, f1_4, c1_5, f1_5⟩ := cells6 (C54.out.b 1 rfl)
             obtain ⟨l0, c0_0, f0_0, c0_1, f0_1, c0_2, f0_2, c0_3, f0_3, c0_4, f0_4, c0_5, f0_5⟩ := cells6 (C54.out.b 0 rfl)
             go_wp2_with fail
             exact My.retE C54.out (a := .slice (some ⟨b0, o0, none⟩) 2 cq) (x := .mk 10 11 i nm at_ (Co.folds l)) 0 rfl Tryz.results43 rfl rfl HBD.out
           ·by_cases h12 : o = 12
            ·subst h12
             by_cases hv0 : v0 = 0
             ·subst hv0
              have hxe : X = .mk 10 12 i nm at_ (Co.folds l) := by
               rw [← HX.out]
               unfold Co.top
               dsimp only
               rw [if_pos (by omega)]
               have hh0 : ((Co.folds l).head?.bind Co.const : Option Int) = Co.const y0 := by rw [List.head?_eq_getElem?, HE0.out]; rfl
               rw [hh0, HCN0.out]
               try dsimp only
               rw [if_neg (by decide), if_neg (by decide)]
               rw [if_neg (by intro h; exact absurd h.1 (by decide)), if_neg (by intro h; exact h.2 rfl)]
               have hh1 : (((Co.folds l).drop 1).head?.bind Co.const : Option Int) = Co.const y1 := by rw [List.head?_eq_getElem?, List.getElem?_drop, HE1.out]; rfl
               rw [hh1, HCN1.out]
               try dsimp only
              subst hxe
              obtain ⟨l1, c1_0, f1_0, c1_1, f1_1, c1_2, f1_2, c1_3, f1_3, c1_4, f1_4, c1_5, f1_5⟩ := cells6 (C54.out.b 1 rfl)
              obtain ⟨l0, c0_0, f0_0, c0_1, f0_1, c0_2, f0_2, c0_3, f0_3, c0_4, f0_4, c0_5, f0_5⟩ := cells6 (C54.out.b 0 rfl)
              go_wp2_with fail
              exact My.retE C54.out (a := .slice (some ⟨b0, o0, none⟩) 2 cq) (x := .mk 10 12 i nm at_ (Co.folds l)) 0 rfl Tryz.results43 rfl rfl HBD.out
             ·have hvb : (v0 == 0) = false := beq_eq_false_iff_ne.2 hv0
              have hvn : (v0 != 0) = true := bne_iff_ne.2 hv0
              have hxe : X = Co.repl (.mk 10 12 i nm at_ (Co.folds l)) (Co.bit (true)) := by
               rw [← HX.out]
               unfold Co.top
               dsimp only
               rw [if_pos (by omega)]
               have hh0 : ((Co.folds l).head?.bind Co.const : Option Int) = Co.const y0 := by rw [List.head?_eq_getElem?, HE0.out]; rfl
               rw [hh0, HCN0.out]
               try dsimp only
               rw [if_neg (by decide), if_neg (by decide)]
               rw [if_neg (by intro h; exact absurd h.1 (by decide)), if_pos ⟨rfl, hv0⟩]
               rfl
              have HXE := Lib.hid hxe
              clear hxe
              have HQN : Hid (Q62p (Co.bit (true))) := Lib.hid (q62_bit _)
              obtain ⟨l1, c1_0, f1_0, c1_1, f1_1, c1_2, f1_2, c1_3, f1_3, c1_4, f1_4, c1_5, f1_5⟩ := cells6 (C54.out.b 1 rfl)
              go_upto_region 18 with fail
              clear l1 c1_0 f1_0 c1_1 f1_1 c1_2 f1_2 c1_3 f1_3 c1_4 f1_4 c1_5 f1_5
              obtain ⟨w60, HW, C60⟩ := C54.out.drewE
              refine wp_region_held_drew (S := fun _ => True) (by kernel_rfl) trivial (fun _ => ?_)
              rw [← HW.out]
              clear HW C54
              refine rT 0 (some 92) ?_
              try simp only [Act.put, q0, q1, q2]
              refine rT 1 (some 93) ?_
              try simp only [Act.put, q0, q1, q2]
              refine rR2 2 (some 94) 3 (some 95) (fun K hK => ?_) (fun K hK => ?_)
              ·go_simp
               refine (bitR_any (true) w60).mono ?_
               rintro e w' ⟨rfl, hww⟩
               rw [hww]
               clear hww w'
               go_wp2_with fail
               refine hK.out _ _ trivial (fun _ => ?_)
               clear hK K
               try simp only [Act.put, q0, q1, q2]
               refine rR1 3 (some 95) (fun K hK => ?_)
               obtain ⟨l1, c1_0, f1_0, c1_1, f1_1, c1_2, f1_2, c1_3, f1_3, c1_4, f1_4, c1_5, f1_5⟩ := cells6 (C60.out.b 1 rfl)
               go_simp
               refine hK.out _ _ trivial (fun _ => ?_)
               clear hK K
               try simp only [Act.put, q0, q1, q2]
               clear l1 c1_0 f1_0 c1_1 f1_1 c1_2 f1_2 c1_3 f1_3 c1_4 f1_4 c1_5 f1_5
               refine rR1 4 (some 96) (fun K hK => ?_)
               go_simp
               refine (replR_any (.mk 10 12 i nm at_ (Co.folds l)) (Co.bit (true)) (.slice (some ⟨b0, o0, none⟩) 2 cq) w60 HQN.out ⟨_, _, _, rfl⟩).mono ?_
               rintro e w61 hp9
               obtain ⟨a9, rfl, C61⟩ := My.repl C60.out hp9
               clear hp9 C60
               obtain ⟨p9, c9, rfl, _⟩ := (C61.out.rd 0 rfl).form
               have HBR := Lib.hid (bd_repl HBD.out HQN.out)
               rw [← HXE.out] at C61 HBR ⊢
               obtain ⟨YN, hYN⟩ : ∃ q, X.args.length = q := ⟨_, rfl⟩
               rw [hYN] at C61 ⊢
               clear hYN
               unfold exprV
               go_wp2_with fail
               refine hK.out _ _ trivial (fun _ => ?_)
               clear hK K
               try simp only [Act.put, q0, q1, q2]
               refine rR1 5 none (fun K hK => ?_)
               obtain ⟨l0, c0_0, f0_0, c0_1, f0_1, c0_2, f0_2, c0_3, f0_3, c0_4, f0_4, c0_5, f0_5⟩ := cells6 (C61.out.b 0 rfl)
               go_simp
               refine hK.out _ _ trivial (fun _ => ?_)
               clear hK K
               try simp only [Act.put, q0, q1, q2]
               refine wpAnyH_done (by kernel_rfl) ?_ _
               go_wp2_with fail
               exact My.retE C61.out (x := X) (a := .slice p9 YN c9) 0 rfl Tryz.results43 rfl rfl HBR.out
              ·obtain ⟨l1, c1_0, f1_0, c1_1, f1_1, c1_2, f1_2, c1_3, f1_3, c1_4, f1_4, c1_5, f1_5⟩ := cells6 (C60.out.b 1 rfl)
               go_simp
               refine hK.out _ _ trivial (fun _ => ?_)
               clear hK K
               try simp only [Act.put, q0, q1, q2]
               clear l1 c1_0 f1_0 c1_1 f1_1 c1_2 f1_2 c1_3 f1_3 c1_4 f1_4 c1_5 f1_5
               refine rR1 2 (some 94) (fun K hK => ?_)
               go_simp
               refine (bitR_any (true) w60).mono ?_
               rintro e w' ⟨rfl, hww⟩
               rw [hww]
               clear hww w'
               go_wp2_with fail
               refine hK.out _ _ trivial (fun _ => ?_)
               clear hK K
               try simp only [Act.put, q0, q1, q2]
               refine rR1 4 (some 96) (fun K hK => ?_)
               go_simp
               refine (replR_any (.mk 10 12 i nm at_ (Co.folds l)) (Co.bit (true)) (.slice (some ⟨b0, o0, none⟩) 2 cq) w60 HQN.out ⟨_, _, _, rfl⟩).mono ?_
               rintro e w62 hp9
               obtain ⟨a9, rfl, C62⟩ := My.repl C60.out hp9
               clear hp9 C60
               obtain ⟨p9, c9, rfl, _⟩ := (C62.out.rd 0 rfl).form
               have HBR := Lib.hid (bd_repl HBD.out HQN.out)
               rw [← HXE.out] at C62 HBR ⊢
               obtain ⟨YN, hYN⟩ : ∃ q, X.args.length = q := ⟨_, rfl⟩
               rw [hYN] at C62 ⊢
               clear hYN
               unfold exprV
               go_wp2_with fail
               refine hK.out _ _ trivial (fun _ => ?_)
               clear hK K
               try simp only [Act.put, q0, q1, q2]
               refine rR1 5 none (fun K hK => ?_)
               obtain ⟨l0, c0_0, f0_0, c0_1, f0_1, c0_2, f0_2, c0_3, f0_3, c0_4, f0_4, c0_5, f0_5⟩ := cells6 (C62.out.b 0 rfl)
               go_simp
               refine hK.out _ _ trivial (fun _ => ?_)
               clear hK K
               try simp only [Act.put, q0, q1, q2]
               refine wpAnyH_done (by kernel_rfl) ?_ _
               go_wp2_with fail
               exact My.retE C62.out (x := X) (a := .slice p9 YN c9) 0 rfl Tryz.results43 rfl rfl HBR.out
            ·have h11b : (o == 11) = false := beq_eq_false_iff_ne.2 h11
             have h12b : (o == 12) = false := beq_eq_false_iff_ne.2 h12
             have hxe : X = .mk 10 o i nm at_ (Co.folds l) := by
              rw [← HX.out]
              unfold Co.top
              dsimp only
              rw [if_pos (by omega)]
              have hh0 : ((Co.folds l).head?.bind Co.const : Option Int) = Co.const y0 := by rw [List.head?_eq_getElem?, HE0.out]; rfl
              rw [hh0, HCN0.out]
              try dsimp only
              rw [if_neg (by decide), if_neg (by decide)]
              rw [if_neg (by intro h; exact h11 h.1), if_neg (by intro h; exact h12 h.1)]
              have hh1 : (((Co.folds l).drop 1).head?.bind Co.const : Option Int) = Co.const y1 := by rw [List.head?_eq_getElem?, List.getElem?_drop, HE1.out]; rfl
              rw [hh1, HCN1.out]
              try dsimp only
             subst hxe
             obtain ⟨l1, c1_0, f1_0, c1_1, f1_1, c1_2, f1_2, c1_3, f1_3, c1_4, f1_4, c1_5, f1_5⟩ := cells6 (C54.out.b 1 rfl)
             obtain ⟨l0, c0_0, f0_0, c0_1, f0_1, c0_2, f0_2, c0_3, f0_3, c0_4, f0_4, c0_5, f0_5⟩ := cells6 (C54.out.b 0 rfl)
             go_wp2_with fail
             exact My.retE C54.out (a := .slice (some ⟨b0, o0, none⟩) 2 cq) (x := .mk 10 o i nm at_ (Co.folds l)) 0 rfl Tryz.results43 rfl rfl HBD.out
         | some v1 =>
           have HCN1 := Lib.hid hcn1
           have hvb1 := HCB1.out _ hcn1
           clear hcn1 HCB1
           simp only [Option.getD_some, Option.isSome_some]
           by_cases h11 : o = 11
           ·subst h11
            by_cases hv0 : v0 = 0
            ·subst hv0
             have hxe : X = Co.repl (.mk 10 11 i nm at_ (Co.folds l)) (Co.bit (false)) := by
              rw [← HX.out]
              unfold Co.top
              dsimp only
              rw [if_pos (by omega)]
              have hh0 : ((Co.folds l).head?.bind Co.const : Option Int) = Co.const y0 := by rw [List.head?_eq_getElem?, HE0.out]; rfl
              rw [hh0, HCN0.out]
              try dsimp only
              rw [if_neg (by decide), if_neg (by decide)]
              rw [if_pos ⟨rfl, rfl⟩]
              rfl
             have HXE := Lib.hid hxe
             clear hxe
             have HQN : Hid (Q62p (Co.bit (false))) := Lib.hid (q62_bit _)
             obtain ⟨l1, c1_0, f1_0, c1_1, f1_1, c1_2, f1_2, c1_3, f1_3, c1_4, f1_4, c1_5, f1_5⟩ := cells6 (C54.out.b 1 rfl)
             go_upto_region 18 with fail
             clear l1 c1_0 f1_0 c1_1 f1_1 c1_2 f1_2 c1_3 f1_3 c1_4 f1_4 c1_5 f1_5
             obtain ⟨w64, HW, C64⟩ := C54.out.drewE
             refine wp_region_held_drew (S := fun _ => True) (by kernel_rfl) trivial (fun _ => ?_)
             rw [← HW.out]
             clear HW C54
             refine rT 0 (some 92) ?_
             try simp only [Act.put, q0, q1, q2]
             refine rT 1 (some 93) ?_
             try simp only [Act.put, q0, q1, q2]
             refine rR2 2 (some 94) 3 (some 95) (fun K hK => ?_) (fun K hK => ?_)
             ·go_simp
              refine (bitR_any (false) w64).mono ?_
              rintro e w' ⟨rfl, hww⟩
              rw [hww]
              clear hww w'
              go_wp2_with fail
              refine hK.out _ _ trivial (fun _ => ?_)
              clear hK K
              try simp only [Act.put, q0, q1, q2]
              refine rR1 3 (some 95) (fun K hK => ?_)
              obtain ⟨l1, c1_0, f1_0, c1_1, f1_1, c1_2, f1_2, c1_3, f1_3, c1_4, f1_4, c1_5, f1_5⟩ := cells6 (C64.out.b 1 rfl)
              go_simp
              refine hK.out _ _ trivial (fun _ => ?_)
              clear hK K
              try simp only [Act.put, q0, q1, q2]
              clear l1 c1_0 f1_0 c1_1 f1_1 c1_2 f1_2 c1_3 f1_3 c1_4 f1_4 c1_5 f1_5
              refine rR1 4 (some 96) (fun K hK => ?_)
              go_simp
              refine (replR_any (.mk 10 11 i nm at_ (Co.folds l)) (Co.bit (false)) (.slice (some ⟨b0, o0, none⟩) 2 cq) w64 HQN.out ⟨_, _, _, rfl⟩).mono ?_
              rintro e w65 hp9
              obtain ⟨a9, rfl, C65⟩ := My.repl C64.out hp9
              clear hp9 C64
              obtain ⟨p9, c9, rfl, _⟩ := (C65.out.rd 0 rfl).form
              have HBR := Lib.hid (bd_repl HBD.out HQN.out)
              rw [← HXE.out] at C65 HBR ⊢
              obtain ⟨YN, hYN⟩ : ∃ q, X.args.length = q := ⟨_, rfl⟩
              rw [hYN] at C65 ⊢
              clear hYN
              unfold exprV
              go_wp2_with fail
              refine hK.out _ _ trivial (fun _ => ?_)
              clear hK K
              try simp only [Act.put, q0, q1, q2]
              refine rR1 5 none (fun K hK => ?_)
              obtain ⟨l0, c0_0, f0_0, c0_1, f0_1, c0_2, f0_2, c0_3, f0_3, c0_4, f0_4, c0_5, f0_5⟩ := cells6 (C65.out.b 0 rfl)
              go_simp
              refine hK.out _ _ trivial (fun _ => ?_)
              clear hK K
              try simp only [Act.put, q0, q1, q2]
              refine wpAnyH_done (by kernel_rfl) ?_ _
              go_wp2_with fail
              exact My.retE C65.out (x := X) (a := .slice p9 YN c9) 0 rfl Tryz.results43 rfl rfl HBR.out
             ·obtain ⟨l1, c1_0, f1_0, c1_1, f1_1, c1_2, f1_2, c1_3, f1_3, c1_4, f1_4, c1_5, f1_5⟩ := cells6 (C64.out.b 1 rfl)
              go_simp
              refine hK.out _ _ trivial (fun _ => ?_)
              clear hK K
              try simp only [Act.put, q0, q1, q2]
              clear l1 c1_0 f1_0 c1_1 f1_1 c1_2 f1_2 c1_3 f1_3 c1_4 f1_4 c1_5 f1_5
              refine rR1 2 (some 94) (fun K hK => ?_)
              go_simp
              refine (bitR_any (false) w64).mono ?_
              rintro e w' ⟨rfl, hww⟩
              rw [hww]
              clear hww w'
              go_wp2_with fail
              refine hK.out _ _ trivial (fun _ => ?_)
              clear hK K
              try simp only [Act.put, q0, q1, q2]
              refine rR1 4 (some 96) (fun K hK => ?_)
              go_simp
              refine (replR_any (.mk 10 11 i nm at_ (Co.folds l)) (Co.bit (false)) (.slice (some ⟨b0, o0, none⟩) 2 cq) w64 HQN.out ⟨_, _, _, rfl⟩).mono ?_
              rintro e w66 hp9
              obtain ⟨a9, rfl, C66⟩ := My.repl C64.out hp9
              clear hp9 C64
              obtain ⟨p9, c9, rfl, _⟩ := (C66.out.rd 0 rfl).form
              have HBR := Lib.hid (bd_repl HBD.out HQN.out)
              rw [← HXE.out] at C66 HBR ⊢
              obtain ⟨YN, hYN⟩ : ∃ q, X.args.length = q := ⟨_, rfl⟩
              rw [hYN] at C66 ⊢
              clear hYN
              unfold exprV
              go_wp2_with fail
              refine hK.out _ _ trivial (fun _ => ?_)
              clear hK K
              try simp only [Act.put, q0, q1, q2]
              refine rR1 5 none (fun K hK => ?_)
              obtain ⟨l0, c0_0, f0_0, c0_1, f0_1, c0_2, f0_2, c0_3, f0_3, c0_4, f0_4, c0_5, f0_5⟩ := cells6 (C66.out.b 0 rfl)
              go_simp
              refine hK.out _ _ trivial (fun _ => ?_)
              clear hK K
              try simp only [Act.put, q0, q1, q2]
              refine wpAnyH_done (by kernel_rfl) ?_ _
              go_wp2_with fail
              exact My.retE C66.out (x := X) (a := .slice p9 YN c9) 0 rfl Tryz.results43 rfl rfl HBR.out
            ·have hvb : (v0 == 0) = false := beq_eq_false_iff_ne.2 hv0
             have hvn : (v0 != 0) = true := bne_iff_ne.2 hv0
             have HI1 : Hid (¬ ((11 : Int) = 11 ∧ v0 = 0)) := Lib.hid (by omega)
             have HI2 : Hid (¬ ((11 : Int) = 12 ∧ v0 ≠ 0)) := Lib.hid (by omega)
             have hxe : X = Co.repl (.mk 10 11 i nm at_ (Co.folds l)) (Co.bit (v1 != 0)) := by
              rw [← HX.out]
              unfold Co.top
              dsimp only
              rw [if_pos (by omega)]
              have hh0 : ((Co.folds l).head?.bind Co.const : Option Int) = Co.const y0 := by rw [List.head?_eq_getElem?, HE0.out]; rfl
              rw [hh0, HCN0.out]
              try dsimp only
              rw [if_neg (by decide), if_neg (by decide)]
              rw [if_neg HI1.out, if_neg HI2.out]
              have hh1 : (((Co.folds l).drop 1).head?.bind Co.const : Option Int) = Co.const y1 := by rw [List.head?_eq_getElem?, List.getElem?_drop, HE1.out]; rfl
              rw [hh1, HCN1.out]
              try dsimp only
              rw [if_pos (by decide)]
             have HXE := Lib.hid hxe
             clear hxe
             have HQN : Hid (Q62p (Co.bit (v1 != 0))) := Lib.hid (q62_bit _)
             obtain ⟨l1, c1_0, f1_0, c1_1, f1_1, c1_2, f1_2, c1_3, f1_3, c1_4, f1_4, c1_5, f1_5⟩ := cells6 (C54.out.b 1 rfl)
             go_upto_region 22 with fail
             clear l1 c1_0 f1_0 c1_1 f1_1 c1_2 f1_2 c1_3 f1_3 c1_4 f1_4 c1_5 f1_5
             obtain ⟨w68, HW, C68⟩ := C54.out.drewE
             refine wp_region_held_drew (S := fun _ => True) (by kernel_rfl) trivial (fun _ => ?_)
             rw [← HW.out]
             clear HW C54
             refine rT 0 (some 108) ?_
             try simp only [Act.put, q0, q1, q2]
             refine rT 1 (some 109) ?_
             try simp only [Act.put, q0, q1, q2]
             refine rR2 2 (some 110) 3 (some 111) (fun K hK => ?_) (fun K hK => ?_)
             ·go_simp
              refine (bitR_any (v1 != 0) w68).mono ?_
              rintro e w' ⟨rfl, hww⟩
              rw [hww]
              clear hww w'
              go_wp2_with fail
              refine hK.out _ _ trivial (fun _ => ?_)
              clear hK K
              try simp only [Act.put, q0, q1, q2]
              refine rR1 3 (some 111) (fun K hK => ?_)
              obtain ⟨l1, c1_0, f1_0, c1_1, f1_1, c1_2, f1_2, c1_3, f1_3, c1_4, f1_4, c1_5, f1_5⟩ := cells6 (C68.out.b 1 rfl)
              go_simp
              refine hK.out _ _ trivial (fun _ => ?_)
              clear hK K
              try simp only [Act.put, q0, q1, q2]
              clear l1 c1_0 f1_0 c1_1 f1_1 c1_2 f1_2 c1_3 f1_3 c1_4 f1_4 c1_5 f1_5
              refine rR1 4 (some 112) (fun K hK => ?_)
              go_simp
              refine (replR_any (.mk 10 11 i nm at_ (Co.folds l)) (Co.bit (v1 != 0)) (.slice (some ⟨b0, o0, none⟩) 2 cq) w68 HQN.out ⟨_, _, _, rfl⟩).mono ?_
              rintro e w69 hp9
              obtain ⟨a9, rfl, C69⟩ := My.repl C68.out hp9
              clear hp9 C68
              obtain ⟨p9, c9, rfl, _⟩ := (C69.out.rd 0 rfl).form
              have HBR := Lib.hid (bd_repl HBD.out HQN.out)
              rw [← HXE.out] at C69 HBR ⊢
              obtain ⟨YN, hYN⟩ : ∃ q, X.args.length = q := ⟨_, rfl⟩
              rw [hYN] at C69 ⊢
              clear hYN
              unfold exprV
              go_wp2_with fail
              refine hK.out _ _ trivial (fun _ => ?_)
              clear hK K
              try simp only [Act.put, q0, q1, q2]
              refine rR1 5 none (fun K hK => ?_)
              obtain ⟨l0, c0_0, f0_0, c0_1, f0_1, c0_2, f0_2, c0_3, f0_3, c0_4, f0_4, c0_5, f0_5⟩ := cells6 (C69.out.b 0 rfl)
              go_simp
              refine hK.out _ _ trivial (fun _ => ?_)
              clear hK K
              try simp only [Act.put, q0, q1, q2]
              refine wpAnyH_done (by kernel_rfl) ?_ _
              go_wp2_with fail
              exact My.retE C69.out (x := X) (a := .slice p9 YN c9) 0 rfl Tryz.results43 rfl rfl HBR.out
             ·obtain ⟨l1, c1_0, f1_0, c1_1, f1_1, c1_2, f1_2, c1_3, f1_3, c1_4, f1_4, c1_5, f1_5⟩ := cells6 (C68.out.b 1 rfl)
              go_simp
              refine hK.out _ _ trivial (fun _ => ?_)
              clear hK K
              try simp only [Act.put, q0, q1, q2]
              clear l1 c1_0 f1_0 c1_1 f1_1 c1_2 f1_2 c1_3 f1_3 c1_4 f1_4 c1_5 f1_5
              refine rR1 2 (some 110) (fun K hK => ?_)
              go_simp
              refine (bitR_any (v1 != 0) w68).mono ?_
              rintro e w' ⟨rfl, hww⟩
              rw [hww]
              clear hww w'
              go_wp2_with fail
              refine hK.out _ _ trivial (fun _ => ?_)
              clear hK K
              try simp only [Act.put, q0, q1, q2]
              refine rR1 4 (some 112) (fun K hK => ?_)
              go_simp
              refine (replR_any (.mk 10 11 i nm at_ (Co.folds l)) (Co.bit (v1 != 0)) (.slice (some ⟨b0, o0, none⟩) 2 cq) w68 HQN.out ⟨_, _, _, rfl⟩).mono ?_
              rintro e w70 hp9
              obtain ⟨a9, rfl, C70⟩ := My.repl C68.out hp9
              clear hp9 C68
              obtain ⟨p9, c9, rfl, _⟩ := (C70.out.rd 0 rfl).form
              have HBR := Lib.hid (bd_repl HBD.out HQN.out)
              rw [← HXE.out] at C70 HBR ⊢
              obtain ⟨YN, hYN⟩ : ∃ q, X.args.length = q := ⟨_, rfl⟩
              rw [hYN] at C70 ⊢
              clear hYN
              unfold exprV
              go_wp2_with fail
              refine hK.out _ _ trivial (fun _ => ?_)
              clear hK K
              try simp only [Act.put, q0, q1, q2]
              refine rR1 5 none (fun K hK => ?_)
              obtain ⟨l0, c0_0, f0_0, c0_1, f0_1, c0_2, f0_2, c0_3, f0_3, c0_4, f0_4, c0_5, f0_5⟩ := cells6 (C70.out.b 0 rfl)
              go_simp
              refine hK.out _ _ trivial (fun _ => ?_)
              clear hK K
              try simp only [Act.put, q0, q1, q2]
              refine wpAnyH_done (by kernel_rfl) ?_ _
              go_wp2_with fail
              exact My.retE C70.out (x := X) (a := .slice p9 YN c9) 0 rfl Tryz.results43 rfl rfl HBR.out
           ·by_cases h12 : o = 12
            ·subst h12
             by_cases hv0 : v0 = 0
             ·subst hv0
              have HI1 : Hid (¬ ((12 : Int) = 11 ∧ (0 : Int) = 0)) := Lib.hid (by decide)
              have HI2 : Hid (¬ ((12 : Int) = 12 ∧ (0 : Int) ≠ 0)) := Lib.hid (by decide)
              have hxe : X = Co.repl (.mk 10 12 i nm at_ (Co.folds l)) (Co.bit (v1 != 0)) := by
               rw [← HX.out]
               unfold Co.top
               dsimp only
               rw [if_pos (by omega)]
               have hh0 : ((Co.folds l).head?.bind Co.const : Option Int) = Co.const y0 := by rw [List.head?_eq_getElem?, HE0.out]; rfl
               rw [hh0, HCN0.out]
               try dsimp only
               rw [if_neg (by decide), if_neg (by decide)]
               rw [if_neg HI1.out, if_neg HI2.out]
               have hh1 : (((Co.folds l).drop 1).head?.bind Co.const : Option Int) = Co.const y1 := by rw [List.head?_eq_getElem?, List.getElem?_drop, HE1.out]; rfl
               rw [hh1, HCN1.out]
               try dsimp only
               rw [if_pos (by decide)]
              have HXE := Lib.hid hxe
              clear hxe
              have HQN : Hid (Q62p (Co.bit (v1 != 0))) := Lib.hid (q62_bit _)
              obtain ⟨l1, c1_0, f1_0, c1_1, f1_1, c1_2, f1_2, c1_3, f1_3, c1_4, f1_4, c1_5, f1_5⟩ := cells6 (C54.out.b 1 rfl)
              go_upto_region 22 with fail
              clear l1 c1_0 f1_0 c1_1 f1_1 c1_2 f1_2 c1_3 f1_3 c1_4 f1_4 c1_5 f1_5
              obtain ⟨w72, HW, C72⟩ := C54.out.drewE
              refine wp_region_held_drew (S := fun _ => True) (by kernel_rfl) trivial (fun _ => ?_)
              rw [← HW.out]
              clear HW C54
              refine rT 0 (some 108) ?_
              try simp only [Act.put, q0, q1, q2]
              refine rT 1 (some 109) ?_
              try simp only [Act.put, q0, q1, q2]
              refine rR2 2 (some 110) 3 (some 111) (fun K hK => ?_) (fun K hK => ?_)
              ·go_simp
               refine (bitR_any (v1 != 0) w72).mono ?_
               rintro e w' ⟨rfl, hww⟩
               rw [hww]
               clear hww w'
               go_wp2_with fail
               refine hK.out _ _ trivial (fun _ => ?_)
               clear hK K
               try simp only [Act.put, q0, q1, q2]
               refine rR1 3 (some 111) (fun K hK => ?_)
               obtain ⟨l1, c1_0, f1_0, c1_1, f1_1, c1_2, f1_2, c1_3, f1_3, c1_4, f1_4, c1_5, f1_5⟩ := cells6 (C72.out.b 1 rfl)
               go_simp
               refine hK.out _ _ trivial (fun _ => ?_)
               clear hK K
               try simp only [Act.put, q0, q1, q2]
               clear l1 c1_0 f1_0 c1_1 f1_1 c1_2 f1_2 c1_3 f1_3 c1_4 f1_4 c1_5 f1_5
               refine rR1 4 (some 112) (fun K hK => ?_)
               go_simp
               refine (replR_any (.mk 10 12 i nm at_ (Co.folds l)) (Co.bit (v1 != 0)) (.slice (some ⟨b0, o0, none⟩) 2 cq) w72 HQN.out ⟨_, _, _, rfl⟩).mono ?_
               rintro e w73 hp9
               obtain ⟨a9, rfl, C73⟩ := My.repl C72.out hp9
               clear hp9 C72
               obtain ⟨p9, c9, rfl, _⟩ := (C73.out.rd 0 rfl).form
               have HBR := Lib.hid (bd_repl HBD.out HQN.out)
               rw [← HXE.out] at C73 HBR ⊢
               obtain ⟨YN, hYN⟩ : ∃ q, X.args.length = q := ⟨_, rfl⟩
               rw [hYN] at C73 ⊢
               clear hYN
               unfold exprV
               go_wp2_with fail
               refine hK.out _ _ trivial (fun _ => ?_)
               clear hK K
               try simp only [Act.put, q0, q1, q2]
               refine rR1 5 none (fun K hK => ?_)
               obtain ⟨l0, c0_0, f0_0, c0_1, f0_1, c0_2, f0_2, c0_3, f0_3, c0_4, f0_4, c0_5, f0_5⟩ := cells6 (C73.out.b 0 rfl)
               go_simp
               refine hK.out _ _ trivial (fun _ => ?_)
               clear hK K
               try simp only [Act.put, q0, q1, q2]
               refine wpAnyH_done (by kernel_rfl) ?_ _
               go_wp2_with fail
               exact My.retE C73.out (x := X) (a := .slice p9 YN c9) 0 rfl Tryz.results43 rfl rfl HBR.out
              ·obtain ⟨l1, c1_0, f1_0, c1_1, f1_1, c1_2, f1_2, c1_3, f1_3, c1_4, f1_4, c1_5, f1_5⟩ := cells6 (C72.out.b 1 rfl)
               go_simp
               refine hK.out _ _ trivial (fun _ => ?_)
               clear hK K
               try simp only [Act.put, q0, q1, q2]
               clear l1 c1_0 f1_0 c1_1 f1_1 c1_2 f1_2 c1_3 f1_3 c1_4 f1_4 c1_5 f1_5
               refine rR1 2 (some 110) (fun K hK => ?_)
               go_simp
               refine (bitR_any (v1 != 0) w72).mono ?_
               rintro e w' ⟨rfl, hww⟩
               rw [hww]
               clear hww w'
               go_wp2_with fail
               refine hK.out _ _ trivial (fun _ => ?_)
               clear hK K
               try simp only [Act.put, q0, q1, q2]
               refine rR1 4 (some 112) (fun K hK => ?_)
               go_simp
               refine (replR_any (.mk 10 12 i nm at_ (Co.folds l)) (Co.bit (v1 != 0)) (.slice (some ⟨b0, o0, none⟩) 2 cq) w72 HQN.out ⟨_, _, _, rfl⟩).mono ?_
               rintro e w74 hp9
               obtain ⟨a9, rfl, C74⟩ := My.repl C72.out hp9
               clear hp9 C72
               obtain ⟨p9, c9, rfl, _⟩ := (C74.out.rd 0 rfl).form
               have HBR := Lib.hid (bd_repl HBD.out HQN.out)
               rw [← HXE.out] at C74 HBR ⊢
               obtain ⟨YN, hYN⟩ : ∃ q, X.args.length = q := ⟨_, rfl⟩
               rw [hYN] at C74 ⊢
               clear hYN
               unfold exprV
               go_wp2_with fail
               refine hK.out _ _ trivial (fun _ => ?_)
               clear hK K
               try simp only [Act.put, q0, q1, q2]
               refine rR1 5 none (fun K hK => ?_)
               obtain ⟨l0, c0_0, f0_0, c0_1, f0_1, c0_2, f0_2, c0_3, f0_3, c0_4, f0_4, c0_5, f0_5⟩ := cells6 (C74.out.b 0 rfl)
               go_simp
               refine hK.out _ _ trivial (fun _ => ?_)
               clear hK K
               try simp only [Act.put, q0, q1, q2]
               refine wpAnyH_done (by kernel_rfl) ?_ _
               go_wp2_with fail
               exact My.retE C74.out (x := X) (a := .slice p9 YN c9) 0 rfl Tryz.results43 rfl rfl HBR.out
             ·have hvb : (v0 == 0) = false := beq_eq_false_iff_ne.2 hv0
              have hvn : (v0 != 0) = true := bne_iff_ne.2 hv0
              have hxe : X = Co.repl (.mk 10 12 i nm at_ (Co.folds l)) (Co.bit (true)) := by
               rw [← HX.out]
               unfold Co.top
               dsimp only
               rw [if_pos (by omega)]
               have hh0 : ((Co.folds l).head?.bind Co.const : Option Int) = Co.const y0 := by rw [List.head?_eq_getElem?, HE0.out]; rfl
               rw [hh0, HCN0.out]
               try dsimp only
               rw [if_neg (by decide), if_neg (by decide)]
               rw [if_neg (by intro h; exact absurd h.1 (by decide)), if_pos ⟨rfl, hv0⟩]
               rfl
              have HXE := Lib.hid hxe
              clear hxe
              have HQN : Hid (Q62p (Co.bit (true))) := Lib.hid (q62_bit _)
              obtain ⟨l1, c1_0, f1_0, c1_1, f1_1, c1_2, f1_2, c1_3, f1_3, c1_4, f1_4, c1_5, f1_5⟩ := cells6 (C54.out.b 1 rfl)
              go_upto_region 18 with fail
              clear l1 c1_0 f1_0 c1_1 f1_1 c1_2 f1_2 c1_3 f1_3 c1_4 f1_4 c1_5 f1_5
              obtain ⟨w76, HW, C76⟩ := C54.out.drewE
              refine wp_region_held_drew (S := fun _ => True) (by kernel_rfl) trivial (fun _ => ?_)
              rw [← HW.out]
              clear HW C54
              refine rT 0 (some 92) ?_
              try simp only [Act.put, q0, q1, q2]
              refine rT 1 (some 93) ?_
              try simp only [Act.put, q0, q1, q2]
              refine rR2 2 (some 94) 3 (some 95) (fun K hK => ?_) (fun K hK => ?_)
              ·go_simp
               refine (bitR_any (true) w76).mono ?_
               rintro e w' ⟨rfl, hww⟩
               rw [hww]
               clear hww w'
               go_wp2_with fail
               refine hK.out _ _ trivial (fun _ => ?_)
               clear hK K
               try simp only [Act.put, q0, q1, q2]
               refine rR1 3 (some 95) (fun K hK => ?_)
               obtain ⟨l1, c1_0, f1_0, c1_1, f1_1, c1_2, f1_2, c1_3, f1_3, c1_4, f1_4, c1_5, f1_5⟩ := cells6 (C76.out.b 1 rfl)
               go_simp
               refine hK.out _ _ trivial (fun _ => ?_)
               clear hK K
               try simp only [Act.put, q0, q1, q2]
               clear l1 c1_0 f1_0 c1_1 f1_1 c1_2 f1_2 c1_3 f1_3 c1_4 f1_4 c1_5 f1_5
               refine rR1 4 (some 96) (fun K hK => ?_)
               go_simp
               refine (replR_any (.mk 10 12 i nm at_ (Co.folds l)) (Co.bit (true)) (.slice (some ⟨b0, o0, none⟩) 2 cq) w76 HQN.out ⟨_, _, _, rfl⟩).mono ?_
               rintro e w77 hp9
               obtain ⟨a9, rfl, C77⟩ := My.repl C76.out hp9
               clear hp9 C76
               obtain ⟨p9, c9, rfl, _⟩ := (C77.out.rd 0 rfl).form
               have HBR := Lib.hid (bd_repl HBD.out HQN.out)
               rw [← HXE.out] at C77 HBR ⊢
               obtain ⟨YN, hYN⟩ : ∃ q, X.args.length = q := ⟨_, rfl⟩
               rw [hYN] at C77 ⊢
               clear hYN
               unfold exprV
               go_wp2_with fail
               refine hK.out _ _ trivial (fun _ => ?_)
               clear hK K
               try simp only [Act.put, q0, q1, q2]
               refine rR1 5 none (fun K hK => ?_)
               obtain ⟨l0, c0_0, f0_0, c0_1, f0_1, c0_2, f0_2, c0_3, f0_3, c0_4, f0_4, c0_5, f0_5⟩ := cells6 (C77.out.b 0 rfl)
               go_simp
               refine hK.out _ _ trivial (fun _ => ?_)
               clear hK K
               try simp only [Act.put, q0, q1, q2]
               refine wpAnyH_done (by kernel_rfl) ?_ _
               go_wp2_with fail
               exact My.retE C77.out (x := X) (a := .slice p9 YN c9) 0 rfl Tryz.results43 rfl rfl HBR.out
              ·obtain ⟨l1, c1_0, f1_0, c1_1, f1_1, c1_2, f1_2, c1_3, f1_3, c1_4, f1_4, c1_5, f1_5⟩ := cells6 (C76.out.b 1 rfl)
               go_simp
               refine hK.out _ _ trivial (fun _ => ?_)
               clear hK K
               try simp only [Act.put, q0, q1, q2]
               clear l1 c1_0 f1_0 c1_1 f1_1 c1_2 f1_2 c1_3 f1_3 c1_4 f1_4 c1_5 f1_5
               refine rR1 2 (some 94) (fun K hK => ?_)
               go_simp
               refine (bitR_any (true) w76).mono ?_
               rintro e w' ⟨rfl, hww⟩
               rw [hww]
               clear hww w'
               go_wp2_with fail
               refine hK.out _ _ trivial (fun _ => ?_)
               clear hK K
               try simp only [Act.put, q0, q1, q2]
               refine rR1 4 (some 96) (fun K hK => ?_)
               go_simp
               refine (replR_any (.mk 10 12 i nm at_ (Co.folds l)) (Co.bit (true)) (.slice (some ⟨b0, o0, none⟩) 2 cq) w76 HQN.out ⟨_, _, _, rfl⟩).mono ?_
               rintro e w78 hp9
               obtain ⟨a9, rfl, C78⟩ := My.repl C76.out hp9
               clear hp9 C76
               obtain ⟨p9, c9, rfl, _⟩ := (C78.out.rd 0 rfl).form
               have HBR := Lib.hid (bd_repl HBD.out HQN.out)
               rw [← HXE.out] at C78 HBR ⊢
               obtain ⟨YN, hYN⟩ : ∃ q, X.args.length = q := ⟨_, rfl⟩
               rw [hYN] at C78 ⊢
               clear hYN
               unfold exprV
               go_wp2_with fail
               refine hK.out _ _ trivial (fun _ => ?_)
               clear hK K
               try simp only [Act.put, q0, q1, q2]
               refine rR1 5 none (fun K hK => ?_)
               obtain ⟨l0, c0_0, f0_0, c0_1, f0_1, c0_2, f0_2, c0_3, f0_3, c0_4, f0_4, c0_5, f0_5⟩ := cells6 (C78.out.b 0 rfl)
               go_simp
               refine hK.out _ _ trivial (fun _ => ?_)
               clear hK K
               try simp only [Act.put, q0, q1, q2]
               refine wpAnyH_done (by kernel_rfl) ?_ _
               go_wp2_with fail
               exact My.retE C78.out (x := X) (a := .slice p9 YN c9) 0 rfl Tryz.results43 rfl rfl HBR.out
            ·have h11b : (o == 11) = false := beq_eq_false_iff_ne.2 h11
             have h12b : (o == 12) = false := beq_eq_false_iff_ne.2 h12
             have H1112 := Lib.hid (And.intro h11 h12)
             have HKC := Lib.hid (result_any o v0 v1 ho.1 (by omega) ⟨by omega, by omega⟩ hvb0.1 ⟨by omega, by omega⟩ w53)
             obtain ⟨l1, c1_0, f1_0, c1_1, f1_1, c1_2, f1_2, c1_3, f1_3, c1_4, f1_4, c1_5, f1_5⟩ := cells6 (C54.out.b 1 rfl)
             go_wp2_with fail
             refine HKC.out.mono ?_
             rintro e w79 ⟨rfl, hb⟩
             have C80 := Lib.hid (C54.out.below hb)
             clear C54
             clear hb HKC l1 c1_0 f1_0 c1_1 f1_1 c1_2 f1_2 c1_3 f1_3 c1_4 f1_4 c1_5 f1_5
             have HCQ : Hid (∀ n, Co.calcO o v0 v1 = some n → -2305843009213693952 ≤ n ∧ n ≤ 2305843009213693951) := Lib.hid (fun n h => Co.calc_bd hvb0 h)
             cases hca : Co.calcO o v0 v1 with
             | none =>
               have hcalc := Lib.hid hca
               clear hca HCQ
               simp only [Option.getD_none, Option.isSome_none]
               have hxe : X = .mk 10 o i nm at_ (Co.folds l) := by
                rw [← HX.out]
                unfold Co.top
                dsimp only
                rw [if_pos (by omega)]
                have hh0 : ((Co.folds l).head?.bind Co.const : Option Int) = Co.const y0 := by rw [List.head?_eq_getElem?, HE0.out]; rfl
                rw [hh0, HCN0.out]
                try dsimp only
                rw [if_neg (by decide), if_neg (by decide)]
                rw [if_neg (by intro h; exact H1112.out.1 h.1), if_neg (by intro h; exact H1112.out.2 h.1)]
                have hh1 : (((Co.folds l).drop 1).head?.bind Co.const : Option Int) = Co.const y1 := by rw [List.head?_eq_getElem?, List.getElem?_drop, HE1.out]; rfl
                rw [hh1, HCN1.out]
                try dsimp only
                rw [if_neg (by intro h; rcases h with h | h; exact H1112.out.1 h; exact H1112.out.2 h), hcalc.out]
               subst hxe
               obtain ⟨l1, c1_0, f1_0, c1_1, f1_1, c1_2, f1_2, c1_3, f1_3, c1_4, f1_4, c1_5, f1_5⟩ := cells6 (C80.out.b 1 rfl)
               obtain ⟨l0, c0_0, f0_0, c0_1, f0_1, c0_2, f0_2, c0_3, f0_3, c0_4, f0_4, c0_5, f0_5⟩ := cells6 (C80.out.b 0 rfl)
               go_wp2_with fail
               exact My.retE C80.out (a := .slice (some ⟨b0, o0, none⟩) 2 cq) (x := .mk 10 o i nm at_ (Co.folds l)) 0 rfl Tryz.results43 rfl rfl HBD.out
             | some n =>
               have hcalc := Lib.hid hca
               have hnb := HCQ.out _ hca
               clear hca HCQ
               simp only [Option.getD_some, Option.isSome_some]
               have hxe : X = Co.repl (.mk 10 o i nm at_ (Co.folds l)) (n) := by
                rw [← HX.out]
                unfold Co.top
                dsimp only
                rw [if_pos (by omega)]
                have hh0 : ((Co.folds l).head?.bind Co.const : Option Int) = Co.const y0 := by rw [List.head?_eq_getElem?, HE0.out]; rfl
                rw [hh0, HCN0.out]
                try dsimp only
                rw [if_neg (by decide), if_neg (by decide)]
                rw [if_neg (by intro h; exact H1112.out.1 h.1), if_neg (by intro h; exact H1112.out.2 h.1)]
                have hh1 : (((Co.folds l).drop 1).head?.bind Co.const : Option Int) = Co.const y1 := by rw [List.head?_eq_getElem?, List.getElem?_drop, HE1.out]; rfl
                rw [hh1, HCN1.out]
                try dsimp only
                rw [if_neg (by intro h; rcases h with h | h; exact H1112.out.1 h; exact H1112.out.2 h), hcalc.out]
               have HXE := Lib.hid hxe
               clear hxe
               have HQN : Hid (Q62p (n)) := Lib.hid hnb
               obtain ⟨l1, c1_0, f1_0, c1_1, f1_1, c1_2, f1_2, c1_3, f1_3, c1_4, f1_4, c1_5, f1_5⟩ := cells6 (C80.out.b 1 rfl)
               obtain ⟨l0, c0_0, f0_0, c0_1, f0_1, c0_2, f0_2, c0_3, f0_3, c0_4, f0_4, c0_5, f0_5⟩ := cells6 (C80.out.b 0 rfl)
               go_wp2_with fail
               refine (replR_any (.mk 10 o i nm at_ (Co.folds l)) (n) (.slice (some ⟨b0, o0, none⟩) 2 cq) w79 HQN.out ⟨_, _, _, rfl⟩).mono ?_
               rintro e w82 hp9
               obtain ⟨a9, rfl, C82⟩ := My.repl C80.out hp9
               clear hp9 C80
               obtain ⟨p9, c9, rfl, _⟩ := (C82.out.rd 0 rfl).form
               have HBR := Lib.hid (bd_repl HBD.out HQN.out)
               rw [← HXE.out] at C82 HBR ⊢
               obtain ⟨YN, hYN⟩ : ∃ q, X.args.length = q := ⟨_, rfl⟩
               rw [hYN] at C82 ⊢
               clear hYN
               obtain ⟨l0, c0_0, f0_0, c0_1, f0_1, c0_2, f0_2, c0_3, f0_3, c0_4, f0_4, c0_5, f0_5⟩ := cells6 (C82.out.b 0 rfl)
               unfold exprV
               go_wp2_with fail
               exact My.retE C82.out (x := X) (a := .slice p9 YN c9) 0 rfl Tryz.results43 rfl rfl HBR.out
     ·have h8 : (k != 8) = true := bne_iff_ne.2 (by omega)
      have h9 : (k != 9) = true := bne_iff_ne.2 (by omega)
      have h10 : (k != 10) = true := bne_iff_ne.2 (by omega)
      have hxe : X = .mk k o i nm at_ (Co.folds l) := by
       rw [← HX.out]
       unfold Co.top
       dsimp only
       rw [if_neg hk]
      subst hxe
      obtain ⟨l1, c1_0, f1_0, c1_1, f1_1, c1_2, f1_2, c1_3, f1_3, c1_4, f1_4, c1_5, f1_5⟩ := cells6 (C40.out.b 1 rfl)
      obtain ⟨l0, c0_0, f0_0, c0_1, f0_1, c0_2, f0_2, c0_3, f0_3, c0_4, f0_4, c0_5, f0_5⟩ := cells6 (C40.out.b 0 rfl)
      go_wp2_with fail
      exact My.retE C40.out (a := .slice pq j cq) (x := .mk k o i nm at_ (Co.folds l)) 0 rfl Tryz.results43 rfl rfl HBD.out
end Cw
end Go.Proofs.YtcnmfcgmnkncaaaGreatDoor
