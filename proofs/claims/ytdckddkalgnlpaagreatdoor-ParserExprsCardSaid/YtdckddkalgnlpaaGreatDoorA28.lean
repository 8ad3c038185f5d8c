/-
  The reference's class, walked.
-/
import Derived.Test.YtdckddkalgnlpaaGreatDoorA24
import Derived.Test.YtdckddkalgnlpaaGreatDoorA27
namespace Go.Proofs.YtdckddkalgnlpaaGreatDoor
open Go.RowKit Go.Maps Pw
theorem Mx.asStr {P : Nat} {w W : World} {Q : World → Prop} {bs : List Bk} {B : Nat} {v : Value} {tr : List ByteArray} (h : Mx w P Q bs [imR tkN B v tr] W) : Mx w P Q bs [im B (fun U => SlStr U v tr)] W := by
 have h2 := h.asIm
 rwa [List.map_id] at h2
theorem mn_M (m : Tr.M) (y z : Value) : Mn (fun U => ReadM U m y z) := fun _ _ h hx => ⟨hx.1, hx.2.1.inc h, hx.2.2.inc h⟩
set_option maxRecDepth 100000 in
set_option maxHeartbeats 8000000 in
theorem classR_any {L : List Lex.Tok} {n tbk tc P : Nat} (hL : Pa.TkL L n) (hg : Pa.Good (Pa.rest L n 0)) (k : Nat) (b : Bool) (w : World) (hp : RS L n tbk tc P k b w) : Calls Tryz.prog 28 #[.pointer (some ⟨P, 0, none⟩)] w (RQ L n tbk tc P k b (fun f ts => Pa.pC f ts) rdC w) := by
 have HG := Lib.hid hg
 have hf1 := field1
 clear hg
 obtain ⟨w1, HW, C1⟩ := ((Cr.start hL hp (fun f ts => Pa.pC f ts)).spc pC_opt).boxR #[.string ⟨#[]⟩, .bool false, .slice none 0 0, .slice none 0 0] 49
 clear hL hp
 go_enter Tryz.func28, Tryz.ntmps28
 go_upto_region 1 with fail
 rw [← HW.out]
 clear HW
 go_wp2_with fail
 refine (C1.out.takeU ⟨#[97, 99, 116, 111, 114]⟩ (by decide)).mono ?_
 rintro e w2 ⟨bv, ka, ba, rfl, hla, hna, C2⟩
 clear C1
 obtain ⟨X, w3, HX, HW, hx3, C3⟩ := C2.out.boxE #[.string ⟨#[]⟩, .bool bv, .slice none 0 0, .slice none 0 0] 49
 go_upto_region 2 with fail
 rw [← HX.out, ← HW.out]
 clear HX HW C2
 obtain ⟨l0, c00, f00, c01, f01, c02, f02, c03, f03⟩ := cells4 (C3.out.m.b 0 rfl)
 go_upto_if 10 with fail
 clear l0 c00 f00 c01 f01 c02 f02 c03 f03
 go_cut [11] (fun _ wx => ∃ (k2 : Nat) (b2 : Bool), k ≤ k2 ∧ k2 ≤ n ∧ Hid (Cr L n tbk tc P k w (fun f => Pa.mv b (fun f ts => Pa.pC f ts) (Pa.rest L n k) f) k2 b2 [(X, #[.string ⟨#[]⟩, .bool bv, .slice none 0 0, .slice none 0 0], 49), (w.heap.size, #[.string ⟨#[]⟩, .bool false, .slice none 0 0, .slice none 0 0], 49)] [] (Pa.clsBody bv) wx))
 case first =>
  cases bv with
  | true =>
    go_wp2_with fail
    go_meet
    exact ⟨ka, ba, hla, hna, Lib.hid (C3.out.spc (fun f ts => if_pos (by trivial)))⟩
  | false =>
    have C4 := Lib.hid (C3.out.spc (G' := fun f ts => (Pa.expect [114, 101, 99, 111, 114, 100] ts).bind fun _ r => Pa.clsBody false f r) (fun f ts => if_neg (by decide)))
    clear C3
    go_wp2_with fail
    refine (C4.out.exp ⟨#[114, 101, 99, 111, 114, 100]⟩ (by decide)).mono ?_
    rintro e w6 ⟨k5, b5, rfl, hle5, hn5, -, C6⟩
    clear C4
    go_wp2_with fail
    go_meet
    exact ⟨k5, b5, by omega, by omega, C6⟩
 case rest =>
  obtain ⟨k2, b2, hk2, hn2, C7⟩ := hcut
  clear C3 hla hna
  have C8 := Lib.hid (C7.out.spc (G' := fun f ts => (Pa.word 3 ts).bind fun n r => (Pa.expect [123] r).bind fun _ r => (Pa.pFields f [] r).bind fun fs r => Pa.clsRest bv n fs f r) (fun _ _ => rfl))
  clear C7
  go_wp2_with fail
  refine (C8.out.word 3 (by decide)).mono ?_
  rintro e w9 ⟨s1, z1, z2, z3, k1, b1, rfl, hsz1, hle1, hn1, C9⟩
  clear C8
  have HSZ := Lib.hid hsz1
  obtain ⟨l0, c00, f00, c01, f01, c02, f02, c03, f03⟩ := cells4 (C9.out.m.b 0 rfl)
  obtain ⟨w10, HW⟩ : ∃ q, Hid (q = (w9.setCell ⟨X, 0, none⟩ (.string s1))) := ⟨_, Lib.hid rfl⟩
  have C10 := Lib.hid (C9.out.mm (W' := w10) (C9.out.m.set 0 rfl (by rw [HW.out]; exact gr_set w9 X 0 (.string s1)) (by rw [HW.out]; exact (heap_set (j := 0) (.string s1) (C9.out.m.b 0 rfl)))))
  go_upto_region 5 with fail
  rw [← HW.out]
  clear HW C9 l0 c00 f00 c01 f01 c02 f02 c03 f03
  have C11 := Lib.hid (C10.out.nrm (bs' := [(X, #[.string s1, .bool bv, .slice none 0 0, .slice none 0 0], 49), _]) rfl)
  clear C10
  go_wp2_with fail
  refine (C11.out.exp ⟨#[123]⟩ (by decide)).mono ?_
  rintro e w13 ⟨k12, b12, rfl, hle12, hn12, -, C13⟩
  clear C11
  obtain ⟨C14, hf⟩ := (C13.out.nilR tkN).foc
  have HF1 := Lib.hid hf
  have C15 := Lib.hid C14
  obtain ⟨BF, hBF⟩ : ∃ q, q = w13.heap.size := ⟨_, rfl⟩
  rw [← hBF] at C15
  clear C14 hf hBF C13
  go_wp2_with fail
  go_loopg [19] (n - k12) (fun gg s19 wr => ∃ (k' : Nat) (b' : Bool) (p : Option Addr) (N c : Nat) (tr : List ByteArray), gg = n - k' ∧ k12 ≤ k' ∧ k' ≤ n ∧ Hid (tr.length ≤ k') ∧ Hid (Cr L n tbk tc P k w (fun f => Pa.mv b12 (fun f ts => Pa.pFields f [] ts) (Pa.rest L n k12) f) k' b' [(X, #[.string s1, .bool bv, .slice p N c, .slice none 0 0], 49), (w.heap.size, #[.string ⟨#[]⟩, .bool false, .slice none 0 0, .slice none 0 0], 49)] [imR tkN BF (.slice p N c) tr] (fun f ts => Pa.pFields f tr ts) wr))
  case atStart => exact ⟨k12, b12, none, 0, 0, [], rfl, by omega, by omega, Lib.hid (Nat.zero_le _), C15⟩
  case round =>
   clear C15
   obtain ⟨k', b', p, N, c, tr, rfl, hltk, hnk, HLN, CR⟩ := hrel
   have C16 := Lib.hid (CR.out.spec (pFieldso _))
   clear CR
   go_wp2_with fail
   refine (C16.out.take ⟨#[118, 97, 114]⟩ (by decide)).mono ?_
   rintro e w17 (⟨rfl, hlt18, -, C17⟩ | ⟨rfl, C17⟩)
   ·clear C16
    have HLEN : tr.length ≤ 1000000 := by have h1 := HLN.out; have h2 := C17.out.hL.few; omega
    go_upto_region 7 with fail
    obtain ⟨w19, HW, C19⟩ := C17.out.drewE
    refine wp_region_held_drew (S := fun _ => True) (by kernel_rfl) trivial (fun _ => ?_)
    rw [← HW.out]
    clear HW C17
    refine rT 0 (some 21) ?_
    try simp only [Act.put, q0, q1, q2]
    refine rT 2 (some 23) ?_
    try simp only [Act.put, q0, q1, q2]
    refine rR2 1 (some 22) 3 (some 24) (fun K hK => ?_) (fun K hK => ?_)
    ·obtain ⟨l0, c00, f00, c01, f01, c02, f02, c03, f03⟩ := cells4 (C19.out.m.b 0 rfl)
     go_simp
     refine hK.out _ _ trivial (fun _ => ?_)
     clear hK K
     try simp only [Act.put, q0, q1, q2]
     clear l0 c00 f00 c01 f01 c02 f02 c03 f03
     refine rR1 3 (some 24) (fun K hK => ?_)
     go_simp
     refine (C19.out.word 2 (by decide)).mono ?_
     rintro e w20 ⟨s2, z1, z2, z3, k2, b2, rfl, hsz2, hle2, hn2, C20⟩
     clear C19
     go_wp2_with fail
     refine hK.out _ _ trivial (fun _ => ?_)
     clear hK K
     try simp only [Act.put, q0, q1, q2]
     refine rT 4 (some 25) ?_
     try simp only [Act.put, q0, q1, q2]
     have C21 := Lib.hid (C20.out.addN hsz2)
     clear C20
     refine rR1 5 (some 26) (fun K hK => ?_)
     obtain ⟨X22, w22, HX, HW, hx22, C22⟩ := C21.out.boxE #[.string s2] 9
     go_simp
     refine hK.out _ _ trivial (fun _ => ?_)
     clear hK K
     try simp only [Act.put, q0, q1, q2]
     rw [← HX.out, ← HW.out]
     clear HX HW C21
     refine rR1 6 (some 27) (fun K hK => ?_)
     refine C22.out.pushS tkN rfl HLEN (by rfl) _ _ (by rfl) (by rfl) (by rfl) ?_
     intro p9 N9 c9 w23 HN9 C23
     clear C22
     refine hK.out _ _ trivial (fun _ => ?_)
     clear hK K
     try simp only [Act.put, q0, q1, q2]
     refine rT 7 (some 28) ?_
     try simp only [Act.put, q0, q1, q2]
     refine rR1 8 none (fun K hK => ?_)
     obtain ⟨l0, c00, f00, c01, f01, c02, f02, c03, f03⟩ := cells4 (C23.out.m.b 0 rfl)
     obtain ⟨w24, HW⟩ : ∃ q, Hid (q = (w23.setCell ⟨X, 2, none⟩ (.slice p9 N9 c9))) := ⟨_, Lib.hid rfl⟩
     have C24 := Lib.hid (C23.out.mm (W' := w24) (C23.out.m.set 0 rfl (by rw [HW.out]; exact gr_set w23 X 2 (.slice p9 N9 c9)) (by rw [HW.out]; exact (heap_set (j := 2) (.slice p9 N9 c9) (C23.out.m.b 0 rfl)))))
     go_simp
     refine hK.out _ _ trivial (fun _ => ?_)
     clear hK K
     try simp only [Act.put, q0, q1, q2]
     refine wpAnyH_done (by kernel_rfl) ?_ _
     rw [← HW.out]
     clear HW C23 l0 c00 f00 c01 f01 c02 f02 c03 f03
     have C25 := Lib.hid (C24.out.nrm (bs' := [(X, #[.string s1, .bool bv, .slice p9 N9 c9, .slice none 0 0], 49), _]) rfl)
     clear C24
     go_wp2_with fail
     refine (C25.out.exp ⟨#[59]⟩ (by decide)).mono ?_
     rintro e w27 ⟨k26, b26, rfl, hle26, hn26, -, C27⟩
     clear C25
     go_wp2_with fail
     have HL9 : Hid ((tr ++ [s2]).length ≤ k26) := Lib.hid (by have h1 := HLN.out; simp only [List.length_append, List.length_cons, List.length_nil]; omega)
     go_roundg (n - k26)
     case measure => omega
     case rel => exact ⟨k26, b26, p9, N9, c9, _, rfl, by omega, by omega, HL9, C27⟩
    ·go_simp
     refine (C19.out.word 2 (by decide)).mono ?_
     rintro e w28 ⟨s2, z1, z2, z3, k2, b2, rfl, hsz2, hle2, hn2, C28⟩
     clear C19
     go_wp2_with fail
     refine hK.out _ _ trivial (fun _ => ?_)
     clear hK K
     try simp only [Act.put, q0, q1, q2]
     refine rT 4 (some 25) ?_
     try simp only [Act.put, q0, q1, q2]
     have C29 := Lib.hid (C28.out.addN hsz2)
     clear C28
     refine rR2 1 (some 22) 5 (some 26) (fun K hK => ?_) (fun K hK => ?_)
     ·obtain ⟨l0, c00, f00, c01, f01, c02, f02, c03, f03⟩ := cells4 (C29.out.m.b 0 rfl)
      go_simp
      refine hK.out _ _ trivial (fun _ => ?_)
      clear hK K
      try simp only [Act.put, q0, q1, q2]
      clear l0 c00 f00 c01 f01 c02 f02 c03 f03
      refine rR1 5 (some 26) (fun K hK => ?_)
      obtain ⟨X30, w30, HX, HW, hx30, C30⟩ := C29.out.boxE #[.string s2] 9
      go_simp
      refine hK.out _ _ trivial (fun _ => ?_)
      clear hK K
      try simp only [Act.put, q0, q1, q2]
      rw [← HX.out, ← HW.out]
      clear HX HW C29
      refine rR1 6 (some 27) (fun K hK => ?_)
      refine C30.out.pushS tkN rfl HLEN (by rfl) _ _ (by rfl) (by rfl) (by rfl) ?_
      intro p9 N9 c9 w31 HN9 C31
      clear C30
      refine hK.out _ _ trivial (fun _ => ?_)
      clear hK K
      try simp only [Act.put, q0, q1, q2]
      refine rT 7 (some 28) ?_
      try simp only [Act.put, q0, q1, q2]
      refine rR1 8 none (fun K hK => ?_)
      obtain ⟨l0, c00, f00, c01, f01, c02, f02, c03, f03⟩ := cells4 (C31.out.m.b 0 rfl)
      obtain ⟨w32, HW⟩ : ∃ q, Hid (q = (w31.setCell ⟨X, 2, none⟩ (.slice p9 N9 c9))) := ⟨_, Lib.hid rfl⟩
      have C32 := Lib.hid (C31.out.mm (W' := w32) (C31.out.m.set 0 rfl (by rw [HW.out]; exact gr_set w31 X 2 (.slice p9 N9 c9)) (by rw [HW.out]; exact (heap_set (j := 2) (.slice p9 N9 c9) (C31.out.m.b 0 rfl)))))
      go_simp
      refine hK.out _ _ trivial (fun _ => ?_)
      clear hK K
      try simp only [Act.put, q0, q1, q2]
      refine wpAnyH_done (by kernel_rfl) ?_ _
      rw [← HW.out]
      clear HW C31 l0 c00 f00 c01 f01 c02 f02 c03 f03
      have C33 := Lib.hid (C32.out.nrm (bs' := [(X, #[.string s1, .bool bv, .slice p9 N9 c9, .slice none 0 0], 49), _]) rfl)
      clear C32
      go_wp2_with fail
      refine (C33.out.exp ⟨#[59]⟩ (by decide)).mono ?_
      rintro e w35 ⟨k34, b34, rfl, hle34, hn34, -, C35⟩
      clear C33
      go_wp2_with fail
      have HL9 : Hid ((tr ++ [s2]).length ≤ k34) := Lib.hid (by have h1 := HLN.out; simp only [List.length_append, List.length_cons, List.length_nil]; omega)
      go_roundg (n - k34)
      case measure => omega
      case rel => exact ⟨k34, b34, p9, N9, c9, _, rfl, by omega, by omega, HL9, C35⟩
     ·obtain ⟨X36, w36, HX, HW, hx36, C36⟩ := C29.out.boxE #[.string s2] 9
      go_simp
      refine hK.out _ _ trivial (fun _ => ?_)
      clear hK K
      try simp only [Act.put, q0, q1, q2]
      rw [← HX.out, ← HW.out]
      clear HX HW C29
      refine rR1 1 (some 22) (fun K hK => ?_)
      obtain ⟨l1, c10, f10, c11, f11, c12, f12, c13, f13⟩ := cells4 (C36.out.m.b 1 rfl)
      go_simp
      refine hK.out _ _ trivial (fun _ => ?_)
      clear hK K
      try simp only [Act.put, q0, q1, q2]
      clear l1 c10 f10 c11 f11 c12 f12 c13 f13
      refine rR1 6 (some 27) (fun K hK => ?_)
      refine C36.out.pushS tkN rfl HLEN (by rfl) _ _ (by rfl) (by rfl) (by rfl) ?_
      intro p9 N9 c9 w37 HN9 C37
      clear C36
      refine hK.out _ _ trivial (fun _ => ?_)
      clear hK K
      try simp only [Act.put, q0, q1, q2]
      refine rT 7 (some 28) ?_
      try simp only [Act.put, q0, q1, q2]
      refine rR1 8 none (fun K hK => ?_)
      obtain ⟨l0, c00, f00, c01, f01, c02, f02, c03, f03⟩ := cells4 (C37.out.m.b 0 rfl)
      obtain ⟨w38, HW⟩ : ∃ q, Hid (q = (w37.setCell ⟨X, 2, none⟩ (.slice p9 N9 c9))) := ⟨_, Lib.hid rfl⟩
      have C38 := Lib.hid (C37.out.mm (W' := w38) (C37.out.m.set 0 rfl (by rw [HW.out]; exact gr_set w37 X 2 (.slice p9 N9 c9)) (by rw [HW.out]; exact (heap_set (j := 2) (.slice p9 N9 c9) (C37.out.m.b 0 rfl)))))
      go_simp
      refine hK.out _ _ trivial (fun _ => ?_)
      clear hK K
      try simp only [Act.put, q0, q1, q2]
      refine wpAnyH_done (by kernel_rfl) ?_ _
      rw [← HW.out]
      clear HW C37 l0 c00 f00 c01 f01 c02 f02 c03 f03
      have C39 := Lib.hid (C38.out.nrm (bs' := [(X, #[.string s1, .bool bv, .slice p9 N9 c9, .slice none 0 0], 49), _]) rfl)
      clear C38
      go_wp2_with fail
      refine (C39.out.exp ⟨#[59]⟩ (by decide)).mono ?_
      rintro e w41 ⟨k40, b40, rfl, hle40, hn40, -, C41⟩
      clear C39
      go_wp2_with fail
      have HL9 : Hid ((tr ++ [s2]).length ≤ k40) := Lib.hid (by have h1 := HLN.out; simp only [List.length_append, List.length_cons, List.length_nil]; omega)
      go_roundg (n - k40)
      case measure => omega
      case rel => exact ⟨k40, b40, p9, N9, c9, _, rfl, by omega, by omega, HL9, C41⟩
   ·clear C16
    have C44 := Lib.hid (C17.out.unf HF1.out)
    clear C17
    obtain ⟨bf, C42, hfs⟩ := C44.out.strs
    have HFS := Lib.hid hfs
    obtain ⟨D42, hf⟩ := ((C42.spc (G' := fun f ts => (if bv then Pa.pMs f [] ts else .ok [] ts).bind fun ms r => (Pa.expect [125] r).bind fun _ r => .ok ⟨s1, bv, tr, ms⟩ r) (fun _ _ => rfl)).nilR tkM).foc
    have HF2 := Lib.hid hf
    have C43 := Lib.hid D42
    obtain ⟨BM, hBM⟩ : ∃ q, q = w17.heap.size := ⟨_, rfl⟩
    rw [← hBM] at C43
    clear C42 D42 hf hBM hfs C44
    go_wp2_with fail
    go_loopg [31] (n - k') (fun gg s31 wr => ∃ (j' : Nat) (bj : Bool) (p3 : Option Addr) (N3 c3 : Nat) (tm : List MT), gg = n - j' ∧ k' ≤ j' ∧ j' ≤ n ∧ Hid (tm.length ≤ j') ∧ Hid (bv = false → tm = []) ∧ Hid (Cr L n tbk tc P k w (fun f => Pa.mv b' (fun f ts => if bv then Pa.pMs f [] ts else .ok [] ts) (Pa.rest L n k') f) j' bj ((X, #[.string s1, .bool bv, .slice p N c, .slice p3 N3 c3], 49) :: (w.heap.size, #[.string ⟨#[]⟩, .bool false, .slice none 0 0, .slice none 0 0], 49) :: bf) [imR tkM BM (.slice p3 N3 c3) tm] (fun f ts => if bv then Pa.pMs f (tm.map Prod.fst) ts else .ok [] ts) wr))
    case atStart => exact ⟨k', b', none, 0, 0, [], rfl, by omega, by omega, Lib.hid (Nat.zero_le _), Lib.hid (fun _ => rfl), C43⟩
    case round =>
     clear C43 HF1
     obtain ⟨j', bj, p3, N3, c3, tm, rfl, hltj, hnj, HLM, HNON, CR⟩ := hrel
     cases bv with
     | false =>
       have hnon := HNON.out rfl
       subst hnon
       have C45 := Lib.hid (CR.out.spc (G' := fun _ ts => .ok [] ts) (fun _ _ => rfl))
       clear CR
       obtain ⟨l0, c00, f00, c01, f01, c02, f02, c03, f03⟩ := cells4 (C45.out.m.b 0 rfl)
       go_upto_region 19 with fail
       clear l0 c00 f00 c01 f01 c02 f02 c03 f03
       have C46 := Lib.hid (C45.out.unf HF2.out)
       clear C45
       go_wp2_with fail
       refine (C46.out.exp ⟨#[125]⟩ (by decide)).mono ?_
       rintro e w48 ⟨k47, b47, rfl, hle47, hn47, -, C48⟩
       clear C46
       obtain ⟨l0, c00, f00, c01, f01, c02, f02, c03, f03⟩ := cells4 (C48.out.m.b 0 rfl)
       obtain ⟨l1, c10, f10, c11, f11, c12, f12, c13, f13⟩ := cells4 (C48.out.m.b 1 rfl)
       go_wp2_with fail
       exact C48.out.retC (x := ⟨s1, false, tr, []⟩) 1 rfl trivial Tryz.results28 rfl rfl (fun U b o => ⟨HSZ.out, HFS.out U (fun j _ _ _ h => b (j + 2) (by omega) h), o 0 rfl⟩)
     | true =>
       have C49 := Lib.hid (CR.out.spec (G' := fun f ts => Pa.opt [111, 110] (fun r => (Pa.meth f r).bind fun m r => Pa.pMs f (tm.map Prod.fst ++ [m]) r) (fun r => .ok (tm.map Prod.fst) r) ts) (fun f ts => (if_pos rfl).trans (pMs_m _ f ts)))
       clear CR
       obtain ⟨l0, c00, f00, c01, f01, c02, f02, c03, f03⟩ := cells4 (C49.out.m.b 0 rfl)
       go_wp2_with fail
       clear l0 c00 f00 c01 f01 c02 f02 c03 f03
       refine (C49.out.take ⟨#[111, 110]⟩ (by decide)).mono ?_
       rintro e w50 (⟨rfl, hlt51, -, C50⟩ | ⟨rfl, C50⟩)
       ·clear C49
        have D52 := Lib.hid ((Cr.start C50.out.hL C50.out.ps Pa.meth).spc (G' := fun f ts => (Pa.word 2 ts).bind fun n r => (Pa.pParams f r).bind fun p r => (Pa.pB f r).bind fun b r => .ok ⟨n, p, b⟩ r) (fun _ _ => rfl))
        go_wp2_with fail
        refine (D52.out.word 2 (by decide)).mono ?_
        rintro e w53 ⟨s3, z1, z2, z3, k3, b3, rfl, hsz3, hle3, hn3, C53⟩
        clear D52
        obtain ⟨Y, w54, HX, HW, hx54, C54⟩ := C53.out.boxE #[.string s3, .slice none 0 0, .slice none 0 0] 64
        go_upto_region 11 with fail
        rw [← HX.out, ← HW.out]
        clear HX HW C53
        obtain ⟨C55, hf⟩ := C54.out.foc
        have HFP := Lib.hid hf
        have E55 := Lib.hid (C55.spc (G' := fun f ts => (Pa.expect [40] ts).bind fun _ r => Pa.opt [41] (fun r => .ok [] r) (fun r => (Pa.word 2 r).bind fun n r => Pa.pParam f [n] r) r) (fun _ _ => rfl))
        clear hf C55 C54
        go_wp2_with fail
        refine (E55.out.exp ⟨#[40]⟩ (by decide)).mono ?_
        rintro e w57 ⟨k56, b56, rfl, hle56, hn56, -, C57⟩
        clear E55
        go_wp2_with fail
        refine (C57.out.takeU ⟨#[41]⟩ (by decide)).mono ?_
        rintro e w58 ⟨vp, kp, bp, rfl, hlp, hnp, C58⟩
        clear C57
        go_upto_if 45 with fail
        go_cut [46] (fun _ wx => ∃ (kq : Nat) (bq : Bool) (pq : Option Addr) (Nq cq Bq : Nat) (lq : List ByteArray), j' + 1 ≤ kq ∧ kq ≤ n ∧ Hid (Cr L n tbk tc P (j' + 1) w50 (fun f => Pa.mv b3 (fun f ts => Pa.pParams f ts) (Pa.rest L n k3) f) kq bq [(Y, #[.string s3, .slice pq Nq cq, .slice none 0 0], 64)] [im Bq (fun U => SlStr U (.slice pq Nq cq) lq)] (fun _ ts => .ok lq ts) wx))
        case first =>
         cases vp with
         | true =>
           have C59 := Lib.hid (C58.out.spc (G' := fun _ ts => .ok [] ts) (fun f ts => if_pos (by trivial)))
           clear C58
           go_wp2_with fail
           go_meet
           have HN0 := C59.out.nilR tkN
           exact ⟨kp, bp, none, 0, 0, _, [], by omega, by omega, Lib.hid (HN0.mm HN0.m.asStr)⟩
         | false =>
           have C61 := Lib.hid (C58.out.spc (G' := fun f ts => (Pa.word 2 ts).bind fun n r => Pa.pParam f [n] r) (fun f ts => if_neg (by decide)))
           clear C58
           have C60 := Lib.hid (C61.out.nilR tkN)
           obtain ⟨BQ, hBQ⟩ : ∃ q, q = w58.heap.size := ⟨_, rfl⟩
           rw [← hBQ] at C60
           clear hBQ C61
           go_upto_region 13 with fail
           obtain ⟨w62, HW, C62⟩ := C60.out.drewE
           refine wp_region_held_drew (S := fun _ => True) (by kernel_rfl) trivial (fun _ => ?_)
           rw [← HW.out]
           clear HW C60
           refine rT 0 (some 46) ?_
           try simp only [Act.put, q0, q1, q2]
           refine rT 2 (some 48) ?_
           try simp only [Act.put, q0, q1, q2]
           refine rR2 1 (some 47) 3 (some 49) (fun K hK => ?_) (fun K hK => ?_)
           ·obtain ⟨l0, c00, f00, c01, f01, c02, f02⟩ := cells3 (C62.out.m.b 0 rfl)
            go_simp
            refine hK.out _ _ trivial (fun _ => ?_)
            clear hK K
            try simp only [Act.put, q0, q1, q2]
            clear l0 c00 f00 c01 f01 c02 f02
            refine rR1 3 (some 49) (fun K hK => ?_)
            go_simp
            refine (C62.out.word 2 (by decide)).mono ?_
            rintro e w63 ⟨s4, z1, z2, z3, k4, b4, rfl, hsz4, hle4, hn4, C63⟩
            clear C62
            go_wp2_with fail
            refine hK.out _ _ trivial (fun _ => ?_)
            clear hK K
            try simp only [Act.put, q0, q1, q2]
            refine rT 4 (some 50) ?_
            try simp only [Act.put, q0, q1, q2]
            have C64 := Lib.hid (C63.out.addN hsz4)
            clear C63
            refine rR1 5 (some 51) (fun K hK => ?_)
            obtain ⟨X65, w65, HX, HW, hx65, C65⟩ := C64.out.boxE #[.string s4] 9
            go_simp
            refine hK.out _ _ trivial (fun _ => ?_)
            clear hK K
            try simp only [Act.put, q0, q1, q2]
            rw [← HX.out, ← HW.out]
            clear HX HW C64
            refine rR1 6 (some 52) (fun K hK => ?_)
            refine C65.out.pushS tkN rfl (Nat.zero_le _) (by rfl) _ _ (by rfl) (by rfl) (by rfl) ?_
            intro p9 N9 c9 w66 HN9 C66
            clear C65
            refine hK.out _ _ trivial (fun _ => ?_)
            clear hK K
            try simp only [Act.put, q0, q1, q2]
            refine rT 7 (some 53) ?_
            try simp only [Act.put, q0, q1, q2]
            refine rR1 8 none (fun K hK => ?_)
            obtain ⟨l0, c00, f00, c01, f01, c02, f02⟩ := cells3 (C66.out.m.b 0 rfl)
            obtain ⟨w67, HW⟩ : ∃ q, Hid (q = (w66.setCell ⟨Y, 1, none⟩ (.slice p9 N9 c9))) := ⟨_, Lib.hid rfl⟩
            have C67 := Lib.hid (C66.out.mm (W' := w67) (C66.out.m.set 0 rfl (by rw [HW.out]; exact gr_set w66 Y 1 (.slice p9 N9 c9)) (by rw [HW.out]; exact (heap_set (j := 1) (.slice p9 N9 c9) (C66.out.m.b 0 rfl)))))
            go_simp
            refine hK.out _ _ trivial (fun _ => ?_)
            clear hK K
            try simp only [Act.put, q0, q1, q2]
            refine wpAnyH_done (by kernel_rfl) ?_ _
            rw [← HW.out]
            clear HW C66 l0 c00 f00 c01 f01 c02 f02
            have C68 := Lib.hid (C67.out.nrm (bs' := [(Y, #[.string s3, .slice p9 N9 c9, .slice none 0 0], 64)]) rfl)
            clear C67
            go_wp2_with fail
            have HL9 : Hid ((([] : List ByteArray) ++ [s4]).length ≤ k4) := Lib.hid (by simp only [List.length_append, List.length_cons, List.length_nil]; omega)
            go_loopg [54] (n - k4) (fun gg s54 wr => ∃ (kz : Nat) (bz : Bool) (pz : Option Addr) (Nz cz : Nat) (tr2 : List ByteArray), gg = n - kz ∧ j' + 1 ≤ kz ∧ kz ≤ n ∧ Hid (tr2.length ≤ kz) ∧ Hid (Cr L n tbk tc P (j' + 1) w50 (fun f => Pa.mv b3 (fun f ts => Pa.pParams f ts) (Pa.rest L n k3) f) kz bz [(Y, #[.string s3, .slice pz Nz cz, .slice none 0 0], 64)] [imR tkN BQ (.slice pz Nz cz) tr2] (fun f ts => Pa.pParam f tr2 ts) wr))
            case atStart => exact ⟨k4, b4, p9, N9, c9, _, rfl, by omega, by omega, HL9, C68⟩
            case round =>
             clear C68 HL9
             obtain ⟨kz, bz, pz, Nz, cz, tr2, rfl, hltz, hnz, HLZ, CZ⟩ := hrel
             have C69 := Lib.hid (CZ.out.spec (pParamo _))
             clear CZ
             go_wp2_with fail
             refine (C69.out.take ⟨#[44]⟩ (by decide)).mono ?_
             rintro e w70 (⟨rfl, hlt71, -, C70⟩ | ⟨rfl, C70⟩)
             ·clear C69
              have HLEN : tr2.length ≤ 1000000 := by have h1 := HLZ.out; have h2 := C70.out.hL.few; omega
              go_upto_region 15 with fail
              obtain ⟨w72, HW, C72⟩ := C70.out.drewE
              refine wp_region_held_drew (S := fun _ => True) (by kernel_rfl) trivial (fun _ => ?_)
              rw [← HW.out]
              clear HW C70
              refine rT 0 (some 56) ?_
              try simp only [Act.put, q0, q1, q2]
              refine rT 2 (some 58) ?_
              try simp only [Act.put, q0, q1, q2]
              refine rR2 1 (some 57) 3 (some 59) (fun K hK => ?_) (fun K hK => ?_)
              ·obtain ⟨l0, c00, f00, c01, f01, c02, f02⟩ := cells3 (C72.out.m.b 0 rfl)
               go_simp
               refine hK.out _ _ trivial (fun _ => ?_)
               clear hK K
               try simp only [Act.put, q0, q1, q2]
               clear l0 c00 f00 c01 f01 c02 f02
               refine rR1 3 (some 59) (fun K hK => ?_)
               go_simp
               refine (C72.out.word 2 (by decide)).mono ?_
               rintro e w73 ⟨s6, z1, z2, z3, k6, b6, rfl, hsz6, hle6, hn6, C73⟩
               clear C72
               go_wp2_with fail
               refine hK.out _ _ trivial (fun _ => ?_)
               clear hK K
               try simp only [Act.put, q0, q1, q2]
               refine rT 4 (some 60) ?_
               try simp only [Act.put, q0, q1, q2]
               have C74 := Lib.hid (C73.out.addN hsz6)
               clear C73
               refine rR1 5 (some 61) (fun K hK => ?_)
               obtain ⟨X75, w75, HX, HW, hx75, C75⟩ := C74.out.boxE #[.string s6] 9
               go_simp
               refine hK.out _ _ trivial (fun _ => ?_)
               clear hK K
               try simp only [Act.put, q0, q1, q2]
               rw [← HX.out, ← HW.out]
               clear HX HW C74
               refine rR1 6 (some 62) (fun K hK => ?_)
               refine C75.out.pushS tkN rfl HLEN (by rfl) _ _ (by rfl) (by rfl) (by rfl) ?_
               intro p8 N8 c8 w76 HN8 C76
               clear C75
               refine hK.out _ _ trivial (fun _ => ?_)
               clear hK K
               try simp only [Act.put, q0, q1, q2]
               refine rT 7 (some 63) ?_
               try simp only [Act.put, q0, q1, q2]
               refine rR1 8 none (fun K hK => ?_)
               obtain ⟨l0, c00, f00, c01, f01, c02, f02⟩ := cells3 (C76.out.m.b 0 rfl)
               obtain ⟨w77, HW⟩ : ∃ q, Hid (q = (w76.setCell ⟨Y, 1, none⟩ (.slice p8 N8 c8))) := ⟨_, Lib.hid rfl⟩
               have C77 := Lib.hid (C76.out.mm (W' := w77) (C76.out.m.set 0 rfl (by rw [HW.out]; exact gr_set w76 Y 1 (.slice p8 N8 c8)) (by rw [HW.out]; exact (heap_set (j := 1) (.slice p8 N8 c8) (C76.out.m.b 0 rfl)))))
               go_simp
               refine hK.out _ _ trivial (fun _ => ?_)
               clear hK K
               try simp only [Act.put, q0, q1, q2]
               refine wpAnyH_done (by kernel_rfl) ?_ _
               rw [← HW.out]
               clear HW C76 l0 c00 f00 c01 f01 c02 f02
               have C78 := Lib.hid (C77.out.nrm (bs' := [(Y, #[.string s3, .slice p8 N8 c8, .slice none 0 0], 64)]) rfl)
               clear C77
               go_wp2_with fail
               have HL9 : Hid ((tr2 ++ [s6]).length ≤ k6) := Lib.hid (by have h1 := HLZ.out; simp only [List.length_append, List.length_cons, List.length_nil]; omega)
               go_roundg (n - k6)
               case measure => omega
               case rel => exact ⟨k6, b6, p8, N8, c8, _, rfl, by omega, by omega, HL9, C78⟩
              ·go_simp
               refine (C72.out.word 2 (by decide)).mono ?_
               rintro e w79 ⟨s6, z1, z2, z3, k6, b6, rfl, hsz6, hle6, hn6, C79⟩
               clear C72
               go_wp2_with fail
               refine hK.out _ _ trivial (fun _ => ?_)
               clear hK K
               try simp only [Act.put, q0, q1, q2]
               refine rT 4 (some 60) ?_
               try simp only [Act.put, q0, q1, q2]
               have C80 := Lib.hid (C79.out.addN hsz6)
               clear C79
               refine rR2 1 (some 57) 5 (some 61) (fun K hK => ?_) (fun K hK => ?_)
               ·obtain ⟨l0, c00, f00, c01, f01, c02, f02⟩ := cells3 (C80.out.m.b 0 rfl)
                go_simp
                refine hK.out _ _ trivial (fun _ => ?_)
                clear hK K
                try simp only [Act.put, q0, q1, q2]
                clear l0 c00 f00 c01 f01 c02 f02
                refine rR1 5 (some 61) (fun K hK => ?_)
                obtain ⟨X81, w81, HX, HW, hx81, C81⟩ := C80.out.boxE #[.string s6] 9
                go_simp
                refine hK.out _ _ trivial (fun _ => ?_)
                clear hK K
                try simp only [Act.put, q0, q1, q2]
                rw [← HX.out, ← HW.out]
                clear HX HW C80
                refine rR1 6 (some 62) (fun K hK => ?_)
                refine C81.out.pushS tkN rfl HLEN (by rfl) _ _ (by rfl) (by rfl) (by rfl) ?_
                intro p8 N8 c8 w82 HN8 C82
                clear C81
                refine hK.out _ _ trivial (fun _ => ?_)
                clear hK K
                try simp only [Act.put, q0, q1, q2]
                refine rT 7 (some 63) ?_
                try simp only [Act.put, q0, q1, q2]
                refine rR1 8 none (fun K hK => ?_)
                obtain ⟨l0, c00, f00, c01, f01, c02, f02⟩ := cells3 (C82.out.m.b 0 rfl)
                obtain ⟨w83, HW⟩ : ∃ q, Hid (q = (w82.setCell ⟨Y, 1, none⟩ (.slice p8 N8 c8))) := ⟨_, Lib.hid rfl⟩
                have C83 := Lib.hid (C82.out.mm (W' := w83) (C82.out.m.set 0 rfl (by rw [HW.out]; exact gr_set w82 Y 1 (.slice p8 N8 c8)) (by rw [HW.out]; exact (heap_set (j := 1) (.slice p8 N8 c8) (C82.out.m.b 0 rfl)))))
                go_simp
                refine hK.out _ _ trivial (fun _ => ?_)
                clear hK K
                try simp only [Act.put, q0, q1, q2]
                refine wpAnyH_done (by kernel_rfl) ?_ _
                rw [← HW.out]
                clear HW C82 l0 c00 f00 c01 f01 c02 f02
                have C84 := Lib.hid (C83.out.nrm (bs' := [(Y, #[.string s3, .slice p8 N8 c8, .slice none 0 0], 64)]) rfl)
                clear C83
                go_wp2_with fail
                have HL9 : Hid ((tr2 ++ [s6]).length ≤ k6) := Lib.hid (by have h1 := HLZ.out; simp only [List.length_append, List.length_cons, List.length_nil]; omega)
                go_roundg (n - k6)
                case measure => omega
                case rel => exact ⟨k6, b6, p8, N8, c8, _, rfl, by omega, by omega, HL9, C84⟩
               ·obtain ⟨X85, w85, HX, HW, hx85, C85⟩ := C80.out.boxE #[.string s6] 9
                go_simp
                refine hK.out _ _ trivial (fun _ => ?_)
                clear hK K
                try simp only [Act.put, q0, q1, q2]
                rw [← HX.out, ← HW.out]
                clear HX HW C80
                refine rR1 1 (some 57) (fun K hK => ?_)
                obtain ⟨l1, c10, f10, c11, f11, c12, f12⟩ := cells3 (C85.out.m.b 1 rfl)
                go_simp
                refine hK.out _ _ trivial (fun _ => ?_)
                clear hK K
                try simp only [Act.put, q0, q1, q2]
                clear l1 c10 f10 c11 f11 c12 f12
                refine rR1 6 (some 62) (fun K hK => ?_)
                refine C85.out.pushS tkN rfl HLEN (by rfl) _ _ (by rfl) (by rfl) (by rfl) ?_
                intro p8 N8 c8 w86 HN8 C86
                clear C85
                refine hK.out _ _ trivial (fun _ => ?_)
                clear hK K
                try simp only [Act.put, q0, q1, q2]
                refine rT 7 (some 63) ?_
                try simp only [Act.put, q0, q1, q2]
                refine rR1 8 none (fun K hK => ?_)
                obtain ⟨l0, c00, f00, c01, f01, c02, f02⟩ := cells3 (C86.out.m.b 0 rfl)
                obtain ⟨w87, HW⟩ : ∃ q, Hid (q = (w86.setCell ⟨Y, 1, none⟩ (.slice p8 N8 c8))) := ⟨_, Lib.hid rfl⟩
                have C87 := Lib.hid (C86.out.mm (W' := w87) (C86.out.m.set 0 rfl (by rw [HW.out]; exact gr_set w86 Y 1 (.slice p8 N8 c8)) (by rw [HW.out]; exact (heap_set (j := 1) (.slice p8 N8 c8) (C86.out.m.b 0 rfl)))))
                go_simp
                refine hK.out _ _ trivial (fun _ => ?_)
                clear hK K
                try simp only [Act.put, q0, q1, q2]
                refine wpAnyH_done (by kernel_rfl) ?_ _
                rw [← HW.out]
                clear HW C86 l0 c00 f00 c01 f01 c02 f02
                have C88 := Lib.hid (C87.out.nrm (bs' := [(Y, #[.string s3, .slice p8 N8 c8, .slice none 0 0], 64)]) rfl)
                clear C87
                go_wp2_with fail
                have HL9 : Hid ((tr2 ++ [s6]).length ≤ k6) := Lib.hid (by have h1 := HLZ.out; simp only [List.length_append, List.length_cons, List.length_nil]; omega)
                go_roundg (n - k6)
                case measure => omega
                case rel => exact ⟨k6, b6, p8, N8, c8, _, rfl, by omega, by omega, HL9, C88⟩
             ·clear C69
              go_wp2_with fail
              refine (C70.out.exp ⟨#[41]⟩ (by decide)).mono ?_
              rintro e w90 ⟨k89, b89, rfl, hle89, hn89, -, C90⟩
              clear C70
              go_wp2_with fail
              go_meet
              exact ⟨k89, b89, pz, Nz, cz, _, tr2, by omega, by omega, Lib.hid (C90.out.mm C90.out.m.asStr)⟩
           ·go_simp
            refine (C62.out.word 2 (by decide)).mono ?_
            rintro e w91 ⟨s4, z1, z2, z3, k4, b4, rfl, hsz4, hle4, hn4, C91⟩
            clear C62
            go_wp2_with fail
            refine hK.out _ _ trivial (fun _ => ?_)
            clear hK K
            try simp only [Act.put, q0, q1, q2]
            refine rT 4 (some 50) ?_
            try simp only [Act.put, q0, q1, q2]
            have C92 := Lib.hid (C91.out.addN hsz4)
            clear C91
            refine rR2 1 (some 47) 5 (some 51) (fun K hK => ?_) (fun K hK => ?_)
            ·obtain ⟨l0, c00, f00, c01, f01, c02, f02⟩ := cells3 (C92.out.m.b 0 rfl)
             go_simp
             refine hK.out _ _ trivial (fun _ => ?_)
             clear hK K
             try simp only [Act.put, q0, q1, q2]
             clear l0 c00 f00 c01 f01 c02 f02
             refine rR1 5 (some 51) (fun K hK => ?_)
             obtain ⟨X93, w93, HX, HW, hx93, C93⟩ := C92.out.boxE #[.string s4] 9
             go_simp
             refine hK.out _ _ trivial (fun _ => ?_)
             clear hK K
             try simp only [Act.put, q0, q1, q2]
             rw [← HX.out, ← HW.out]
             clear HX HW C92
             refine rR1 6 (some 52) (fun K hK => ?_)
             refine C93.out.pushS tkN rfl (Nat.zero_le _) (by rfl) _ _ (by rfl) (by rfl) (by rfl) ?_
             intro p9 N9 c9 w94 HN9 C94
             clear C93
             refine hK.out _ _ trivial (fun _ => ?_)
             clear hK K
             try simp only [Act.put, q0, q1, q2]
             refine rT 7 (some 53) ?_
             try simp only [Act.put, q0, q1, q2]
             refine rR1 8 none (fun K hK => ?_)
             obtain ⟨l0, c00, f00, c01, f01, c02, f02⟩ := cells3 (C94.out.m.b 0 rfl)
             obtain ⟨w95, HW⟩ : ∃ q, Hid (q = (w94.setCell ⟨Y, 1, none⟩ (.slice p9 N9 c9))) := ⟨_, Lib.hid rfl⟩
             have C95 := Lib.hid (C94.out.mm (W' := w95) (C94.out.m.set 0 rfl (by rw [HW.out]; exact gr_set w94 Y 1 (.slice p9 N9 c9)) (by rw [HW.out]; exact (heap_set (j := 1) (.slice p9 N9 c9) (C94.out.m.b 0 rfl)))))
             go_simp
             refine hK.out _ _ trivial (fun _ => ?_)
             clear hK K
             try simp only [Act.put, q0, q1, q2]
             refine wpAnyH_done (by kernel_rfl) ?_ _
             rw [← HW.out]
             clear HW C94 l0 c00 f00 c01 f01 c02 f02
             have C96 := Lib.hid (C95.out.nrm (bs' := [(Y, #[.string s3, .slice p9 N9 c9, .slice none 0 0], 64)]) rfl)
             clear C95
             go_wp2_with fail
             have HL9 : Hid ((([] : List ByteArray) ++ [s4]).length ≤ k4) := Lib.hid (by simp only [List.length_append, List.length_cons, List.length_nil]; omega)
             go_loopg [54] (n - k4) (fun gg s54 wr => ∃ (kz : Nat) (bz : Bool) (pz : Option Addr) (Nz cz : Nat) (tr2 : List ByteArray), gg = n - kz ∧ j' + 1 ≤ kz ∧ kz ≤ n ∧ Hid (tr2.length ≤ kz) ∧ Hid (Cr L n tbk tc P (j' + 1) w50 (fun f => Pa.mv b3 (fun f ts => Pa.pParams f ts) (Pa.rest L n k3) f) kz bz [(Y, #[.string s3, .slice pz Nz cz, .slice none 0 0], 64)] [imR tkN BQ (.slice pz Nz cz) tr2] (fun f ts => Pa.pParam f tr2 ts) wr))
             case atStart => exact ⟨k4, b4, p9, N9, c9, _, rfl, by omega, by omega, HL9, C96⟩
             case round =>
              clear C96 HL9
              obtain ⟨kz, bz, pz, Nz, cz, tr2, rfl, hltz, hnz, HLZ, CZ⟩ := hrel
              have C97 := Lib.hid (CZ.out.spec (pParamo _))
              clear CZ
              go_wp2_with fail
              refine (C97.out.take ⟨#[44]⟩ (by decide)).mono ?_
              rintro e w98 (⟨rfl, hlt99, -, C98⟩ | ⟨rfl, C98⟩)
              ·clear C97
               have HLEN : tr2.length ≤ 1000000 := by have h1 := HLZ.out; have h2 := C98.out.hL.few; omega
               go_upto_region 15 with fail
               obtain ⟨w100, HW, C100⟩ := C98.out.drewE
               refine wp_region_held_drew (S := fun _ => True) (by kernel_rfl) trivial (fun _ => ?_)
               rw [← HW.out]
               clear HW C98
               refine rT 0 (some 56) ?_
               try simp only [Act.put, q0, q1, q2]
               refine rT 2 (some 58) ?_
               try simp only [Act.put, q0, q1, q2]
               refine rR2 1 (some 57) 3 (some 59) (fun K hK => ?_) (fun K hK => ?_)
               ·obtain ⟨l0, c00, f00, c01, f01, c02, f02⟩ := cells3 (C100.out.m.b 0 rfl)
                go_simp
                refine hK.out _ _ trivial (fun _ => ?_)
                clear hK K
                try simp only [Act.put, q0, q1, q2]
                clear l0 c00 f00 c01 f01 c02 f02
                refine rR1 3 (some 59) (fun K hK => ?_)
                go_simp
                refine (C100.out.word 2 (by decide)).mono ?_
                rintro e w101 ⟨s6, z1, z2, z3, k6, b6, rfl, hsz6, hle6, hn6, C101⟩
                clear C100
                go_wp2_with fail
                refine hK.out _ _ trivial (fun _ => ?_)
                clear hK K
                try simp only [Act.put, q0, q1, q2]
                refine rT 4 (some 60) ?_
                try simp only [Act.put, q0, q1, q2]
                have C102 := Lib.hid (C101.out.addN hsz6)
                clear C101
                refine rR1 5 (some 61) (fun K hK => ?_)
                obtain ⟨X103, w103, HX, HW, hx103, C103⟩ := C102.out.boxE #[.string s6] 9
                go_simp
                refine hK.out _ _ trivial (fun _ => ?_)
                clear hK K
                try simp only [Act.put, q0, q1, q2]
                rw [← HX.out, ← HW.out]
                clear HX HW C102
                refine rR1 6 (some 62) (fun K hK => ?_)
                refine C103.out.pushS tkN rfl HLEN (by rfl) _ _ (by rfl) (by rfl) (by rfl) ?_
                intro p8 N8 c8 w104 HN8 C104
                clear C103
                refine hK.out _ _ trivial (fun _ => ?_)
                clear hK K
                try simp only [Act.put, q0, q1, q2]
                refine rT 7 (some 63) ?_
                try simp only [Act.put, q0, q1, q2]
                refine rR1 8 none (fun K hK => ?_)
                obtain ⟨l0, c00, f00, c01, f01, c02, f02⟩ := cells3 (C104.out.m.b 0 rfl)
                obtain ⟨w105, HW⟩ : ∃ q, Hid (q = (w104.setCell ⟨Y, 1, none⟩ (.slice p8 N8 c8))) := ⟨_, Lib.hid rfl⟩
                have C105 := Lib.hid (C104.out.mm (W' := w105) (C104.out.m.set 0 rfl (by rw [HW.out]; exact gr_set w104 Y 1 (.slice p8 N8 c8)) (by rw [HW.out]; exact (heap_set (j := 1) (.slice p8 N8 c8) (C104.out.m.b 0 rfl)))))
                go_simp
                refine hK.out _ _ trivial (fun _ => ?_)
                clear hK K
                try simp only [Act.put, q0, q1, q2]
                refine wpAnyH_done (by kernel_rfl) ?_ _
                rw [← HW.out]
                clear HW C104 l0 c00 f00 c01 f01 c02 f02
                have C106 := Lib.hid (C105.out.nrm (bs' := [(Y, #[.string s3, .slice p8 N8 c8, .slice none 0 0], 64)]) rfl)
                clear C105
                go_wp2_with fail
                have HL9 : Hid ((tr2 ++ [s6]).length ≤ k6) := Lib.hid (by have h1 := HLZ.out; simp only [List.length_append, List.length_cons, List.length_nil]; omega)
                go_roundg (n - k6)
                case measure => omega
                case rel => exact ⟨k6, b6, p8, N8, c8, _, rfl, by omega, by omega, HL9, C106⟩
               ·go_simp
                refine (C100.out.word 2 (by decide)).mono ?_
                rintro e w107 ⟨s6, z1, z2, z3, k6, b6, rfl, hsz6, hle6, hn6, C107⟩
                clear C100
                go_wp2_with fail
                refine hK.out _ _ trivial (fun _ => ?_)
                clear hK K
                try simp only [Act.put, q0, q1, q2]
                refine rT 4 (some 60) ?_
                try simp only [Act.put, q0, q1, q2]
                have C108 := Lib.hid (C107.out.addN hsz6)
                clear C107
                refine rR2 1 (some 57) 5 (some 61) (fun K hK => ?_) (fun K hK => ?_)
                ·obtain ⟨l0, c00, f00, c01, f01, c02, f02⟩ := cells3 (C108.out.m.b 0 rfl)
                 go_simp
                 refine hK.out _ _ trivial (fun _ => ?_)
                 clear hK K
                 try simp only [Act.put, q0, q1, q2]
                 clear l0 c00 f00 c01 f01 c02 f02
                 refine rR1 5 (some 61) (fun K hK => ?_)
                 obtain ⟨X109, w109, HX, HW, hx109, C109⟩ := C108.out.boxE #[.string s6] 9
                 go_simp
                 refine hK.out _ _ trivial (fun _ => ?_)
                 clear hK K
                 try simp only [Act.put, q0, q1, q2]
                 rw [← HX.out, ← HW.out]
                 clear HX HW C108
                 refine rR1 6 (some 62) (fun K hK => ?_)
                 refine C109.out.pushS tkN rfl HLEN (by rfl) _ _ (by rfl) (by rfl) (by rfl) ?_
                 intro p8 N8 c8 w110 HN8 C110
                 clear C109
                 refine hK.out _ _ trivial (fun _ => ?_)
                 clear hK K
                 try simp only [Act.put, q0, q1, q2]
                 refine rT 7 (some 63) ?_
                 try simp only [Act.put, q0, q1, q2]
                 refine rR1 8 none (fun K hK => ?_)
                 obtain ⟨l0, c00, f00, c01, f01, c02, f02⟩ := cells3 (C110.out.m.b 0 rfl)
                 obtain ⟨w111, HW⟩ : ∃ q, Hid (q = (w110.setCell ⟨Y, 1, none⟩ (.slice p8 N8 c8))) := ⟨_, Lib.hid rfl⟩
                 have C111 := Lib.hid (C110.out.mm (W' := w111) (C110.out.m.set 0 rfl (by rw [HW.out]; exact gr_set w110 Y 1 (.slice p8 N8 c8)) (by rw [HW.out]; exact (heap_set (j := 1) (.slice p8 N8 c8) (C110.out.m.b 0 rfl)))))
                 go_simp
                 refine hK.out _ _ trivial (fun _ => ?_)
                 clear hK K
                 try simp only [Act.put, q0, q1, q2]
                 refine wpAnyH_done (by kernel_rfl) ?_ _
                 rw [← HW.out]
                 clear HW C110 l0 c00 f00 c01 f01 c02 f02
                 have C112 := Lib.hid (C111.out.nrm (bs' := [(Y, #[.string s3, .slice p8 N8 c8, .slice none 0 0], 64)]) rfl)
                 clear C111
                 go_wp2_with fail
                 have HL9 : Hid ((tr2 ++ [s6]).length ≤ k6) := Lib.hid (by have h1 := HLZ.out; simp only [List.length_append, List.length_cons, List.length_nil]; omega)
                 go_roundg (n - k6)
                 case measure => omega
                 case rel => exact ⟨k6, b6, p8, N8, c8, _, rfl, by omega, by omega, HL9, C112⟩
                ·obtain ⟨X113, w113, HX, HW, hx113, C113⟩ := C108.out.boxE #[.string s6] 9
                 go_simp
                 refine hK.out _ _ trivial (fun _ => ?_)
                 clear hK K
                 try simp only [Act.put, q0, q1, q2]
                 rw [← HX.out, ← HW.out]
                 clear HX HW C108
                 refine rR1 1 (some 57) (fun K hK => ?_)
                 obtain ⟨l1, c10, f10, c11, f11, c12, f12⟩ := cells3 (C113.out.m.b 1 rfl)
                 go_simp
                 refine hK.out _ _ trivial (fun _ => ?_)
                 clear hK K
                 try simp only [Act.put, q0, q1, q2]
                 clear l1 c10 f10 c11 f11 c12 f12
                 refine rR1 6 (some 62) (fun K hK => ?_)
                 refine C113.out.pushS tkN rfl HLEN (by rfl) _ _ (by rfl) (by rfl) (by rfl) ?_
                 intro p8 N8 c8 w114 HN8 C114
                 clear C113
                 refine hK.out _ _ trivial (fun _ => ?_)
                 clear hK K
                 try simp only [Act.put, q0, q1, q2]
                 refine rT 7 (some 63) ?_
                 try simp only [Act.put, q0, q1, q2]
                 refine rR1 8 none (fun K hK => ?_)
                 obtain ⟨l0, c00, f00, c01, f01, c02, f02⟩ := cells3 (C114.out.m.b 0 rfl)
                 obtain ⟨w115, HW⟩ : ∃ q, Hid (q = (w114.setCell ⟨Y, 1, none⟩ (.slice p8 N8 c8))) := ⟨_, Lib.hid rfl⟩
                 have C115 := Lib.hid (C114.out.mm (W' := w115) (C114.out.m.set 0 rfl (by rw [HW.out]; exact gr_set w114 Y 1 (.slice p8 N8 c8)) (by rw [HW.out]; exact (heap_set (j := 1) (.slice p8 N8 c8) (C114.out.m.b 0 rfl)))))
                 go_simp
                 refine hK.out _ _ trivial (fun _ => ?_)
                 clear hK K
                 try simp only [Act.put, q0, q1, q2]
                 refine wpAnyH_done (by kernel_rfl) ?_ _
                 rw [← HW.out]
                 clear HW C114 l0 c00 f00 c01 f01 c02 f02
                 have C116 := Lib.hid (C115.out.nrm (bs' := [(Y, #[.string s3, .slice p8 N8 c8, .slice none 0 0], 64)]) rfl)
                 clear C115
                 go_wp2_with fail
                 have HL9 : Hid ((tr2 ++ [s6]).length ≤ k6) := Lib.hid (by have h1 := HLZ.out; simp only [List.length_append, List.length_cons, List.length_nil]; omega)
                 go_roundg (n - k6)
                 case measure => omega
                 case rel => exact ⟨k6, b6, p8, N8, c8, _, rfl, by omega, by omega, HL9, C116⟩
              ·clear C97
               go_wp2_with fail
               refine (C98.out.exp ⟨#[41]⟩ (by decide)).mono ?_
               rintro e w118 ⟨k117, b117, rfl, hle117, hn117, -, C118⟩
               clear C98
               go_wp2_with fail
               go_meet
               exact ⟨k117, b117, pz, Nz, cz, _, tr2, by omega, by omega, Lib.hid (C118.out.mm C118.out.m.asStr)⟩
            ·obtain ⟨X119, w119, HX, HW, hx119, C119⟩ := C92.out.boxE #[.string s4] 9
             go_simp
             refine hK.out _ _ trivial (fun _ => ?_)
             clear hK K
             try simp only [Act.put, q0, q1, q2]
             rw [← HX.out, ← HW.out]
             clear HX HW C92
             refine rR1 1 (some 47) (fun K hK => ?_)
             obtain ⟨l1, c10, f10, c11, f11, c12, f12⟩ := cells3 (C119.out.m.b 1 rfl)
             go_simp
             refine hK.out _ _ trivial (fun _ => ?_)
             clear hK K
             try simp only [Act.put, q0, q1, q2]
             clear l1 c10 f10 c11 f11 c12 f12
             refine rR1 6 (some 52) (fun K hK => ?_)
             refine C119.out.pushS tkN rfl (Nat.zero_le _) (by rfl) _ _ (by rfl) (by rfl) (by rfl) ?_
             intro p9 N9 c9 w120 HN9 C120
             clear C119
             refine hK.out _ _ trivial (fun _ => ?_)
             clear hK K
             try simp only [Act.put, q0, q1, q2]
             refine rT 7 (some 53) ?_
             try simp only [Act.put, q0, q1, q2]
             refine rR1 8 none (fun K hK => ?_)
             obtain ⟨l0, c00, f00, c01, f01, c02, f02⟩ := cells3 (C120.out.m.b 0 rfl)
             obtain ⟨w121, HW⟩ : ∃ q, Hid (q = (w120.setCell ⟨Y, 1, none⟩ (.slice p9 N9 c9))) := ⟨_, Lib.hid rfl⟩
             have C121 := Lib.hid (C120.out.mm (W' := w121) (C120.out.m.set 0 rfl (by rw [HW.out]; exact gr_set w120 Y 1 (.slice p9 N9 c9)) (by rw [HW.out]; exact (heap_set (j := 1) (.slice p9 N9 c9) (C120.out.m.b 0 rfl)))))
             go_simp
             refine hK.out _ _ trivial (fun _ => ?_)
             clear hK K
             try simp only [Act.put, q0, q1, q2]
             refine wpAnyH_done (by kernel_rfl) ?_ _
             rw [← HW.out]
             clear HW C120 l0 c00 f00 c01 f01 c02 f02
             have C122 := Lib.hid (C121.out.nrm (bs' := [(Y, #[.string s3, .slice p9 N9 c9, .slice none 0 0], 64)]) rfl)
             clear C121
             go_wp2_with fail
             have HL9 : Hid ((([] : List ByteArray) ++ [s4]).length ≤ k4) := Lib.hid (by simp only [List.length_append, List.length_cons, List.length_nil]; omega)
             go_loopg [54] (n - k4) (fun gg s54 wr => ∃ (kz : Nat) (bz : Bool) (pz : Option Addr) (Nz cz : Nat) (tr2 : List ByteArray), gg = n - kz ∧ j' + 1 ≤ kz ∧ kz ≤ n ∧ Hid (tr2.length ≤ kz) ∧ Hid (Cr L n tbk tc P (j' + 1) w50 (fun f => Pa.mv b3 (fun f ts => Pa.pParams f ts) (Pa.rest L n k3) f) kz bz [(Y, #[.string s3, .slice pz Nz cz, .slice none 0 0], 64)] [imR tkN BQ (.slice pz Nz cz) tr2] (fun f ts => Pa.pParam f tr2 ts) wr))
             case atStart => exact ⟨k4, b4, p9, N9, c9, _, rfl, by omega, by omega, HL9, C122⟩
             case round =>
              clear C122 HL9
              obtain ⟨kz, bz, pz, Nz, cz, tr2, rfl, hltz, hnz, HLZ, CZ⟩ := hrel
              have C123 := Lib.hid (CZ.out.spec (pParamo _))
              clear CZ
              go_wp2_with fail
              refine (C123.out.take ⟨#[44]⟩ (by decide)).mono ?_
              rintro e w124 (⟨rfl, hlt125, -, C124⟩ | ⟨rfl, C124⟩)
              ·clear C123
               have HLEN : tr2.length ≤ 1000000 := by have h1 := HLZ.out; have h2 := C124.out.hL.few; omega
               go_upto_region 15 with fail
               obtain ⟨w126, HW, C126⟩ := C124.out.drewE
               refine wp_region_held_drew (S := fun _ => True) (by kernel_rfl) trivial (fun _ => ?_)
               rw [← HW.out]
               clear HW C124
               refine rT 0 (some 56) ?_
               try simp only [Act.put, q0, q1, q2]
               refine rT 2 (some 58) ?_
               try simp only [Act.put, q0, q1, q2]
               refine rR2 1 (some 57) 3 (some 59) (fun K hK => ?_) (fun K hK => ?_)
               ·obtain ⟨l0, c00, f00, c01, f01, c02, f02⟩ := cells3 (C126.out.m.b 0 rfl)
                go_simp
                refine hK.out _ _ trivial (fun _ => ?_)
                clear hK K
                try simp only [Act.put, q0, q1, q2]
                clear l0 c00 f00 c01 f01 c02 f02
                refine rR1 3 (some 59) (fun K hK => ?_)
                go_simp
                refine (C126.out.word 2 (by decide)).mono ?_
                rintro e w127 ⟨s6, z1, z2, z3, k6, b6, rfl, hsz6, hle6, hn6, C127⟩
                clear C126
                go_wp2_with fail
                refine hK.out _ _ trivial (fun _ => ?_)
                clear hK K
                try simp only [Act.put, q0, q1, q2]
                refine rT 4 (some 60) ?_
                try simp only [Act.put, q0, q1, q2]
                have C128 := Lib.hid (C127.out.addN hsz6)
                clear C127
                refine rR1 5 (some 61) (fun K hK => ?_)
                obtain ⟨X129, w129, HX, HW, hx129, C129⟩ := C128.out.boxE #[.string s6] 9
                go_simp
                refine hK.out _ _ trivial (fun _ => ?_)
                clear hK K
                try simp only [Act.put, q0, q1, q2]
                rw [← HX.out, ← HW.out]
                clear HX HW C128
                refine rR1 6 (some 62) (fun K hK => ?_)
                refine C129.out.pushS tkN rfl HLEN (by rfl) _ _ (by rfl) (by rfl) (by rfl) ?_
                intro p8 N8 c8 w130 HN8 C130
                clear C129
                refine hK.out _ _ trivial (fun _ => ?_)
                clear hK K
                try simp only [Act.put, q0, q1, q2]
                refine rT 7 (some 63) ?_
                try simp only [Act.put, q0, q1, q2]
                refine rR1 8 none (fun K hK => ?_)
                obtain ⟨l0, c00, f00, c01, f01, c02, f02⟩ := cells3 (C130.out.m.b 0 rfl)
                obtain ⟨w131, HW⟩ : ∃ q, Hid (q = (w130.setCell ⟨Y, 1, none⟩ (.slice p8 N8 c8))) := ⟨_, Lib.hid rfl⟩
                have C131 := Lib.hid (C130.out.mm (W' := w131) (C130.out.m.set 0 rfl (by rw [HW.out]; exact gr_set w130 Y 1 (.slice p8 N8 c8)) (by rw [HW.out]; exact (heap_set (j := 1) (.slice p8 N8 c8) (C130.out.m.b 0 rfl)))))
                go_simp
                refine hK.out _ _ trivial (fun _ => ?_)
                clear hK K
                try simp only [Act.put, q0, q1, q2]
                refine wpAnyH_done (by kernel_rfl) ?_ _
                rw [← HW.out]
                clear HW C130 l0 c00 f00 c01 f01 c02 f02
                have C132 := Lib.hid (C131.out.nrm (bs' := [(Y, #[.string s3, .slice p8 N8 c8, .slice none 0 0], 64)]) rfl)
                clear C131
                go_wp2_with fail
                have HL9 : Hid ((tr2 ++ [s6]).length ≤ k6) := Lib.hid (by have h1 := HLZ.out; simp only [List.length_append, List.length_cons, List.length_nil]; omega)
                go_roundg (n - k6)
                case measure => omega
                case rel => exact ⟨k6, b6, p8, N8, c8, _, rfl, by omega, by omega, HL9, C132⟩
               ·go_simp
                refine (C126.out.word 2 (by decide)).mono ?_
                rintro e w133 ⟨s6, z1, z2, z3, k6, b6, rfl, hsz6, hle6, hn6, C133⟩
                clear C126
                go_wp2_with fail
                refine hK.out _ _ trivial (fun _ => ?_)
                clear hK K
                try simp only [Act.put, q0, q1, q2]
                refine rT 4 (some 60) ?_
                try simp only [Act.put, q0, q1, q2]
                have C134 := Lib.hid (C133.out.addN hsz6)
                clear C133
                refine rR2 1 (some 57) 5 (some 61) (fun K hK => ?_) (fun K hK => ?_)
                ·obtain ⟨l0, c00, f00, c01, f01, c02, f02⟩ := cells3 (C134.out.m.b 0 rfl)
                 go_simp
                 refine hK.out _ _ trivial (fun _ => ?_)
                 clear hK K
                 try simp only [Act.put, q0, q1, q2]
                 clear l0 c00 f00 c01 f01 c02 f02
                 refine rR1 5 (some 61) (fun K hK => ?_)
                 obtain ⟨X135, w135, HX, HW, hx135, C135⟩ := C134.out.boxE #[.string s6] 9
                 go_simp
                 refine hK.out _ _ trivial (fun _ => ?_)
                 clear hK K
                 try simp only [Act.put, q0, q1, q2]
                 rw [← HX.out, ← HW.out]
                 clear HX HW C134
                 refine rR1 6 (some 62) (fun K hK => ?_)
                 refine C135.out.pushS tkN rfl HLEN (by rfl) _ _ (by rfl) (by rfl) (by rfl) ?_
                 intro p8 N8 c8 w136 HN8 C136
                 clear C135
                 refine hK.out _ _ trivial (fun _ => ?_)
                 clear hK K
                 try simp only [Act.put, q0, q1, q2]
                 refine rT 7 (some 63) ?_
                 try simp only [Act.put, q0, q1, q2]
                 refine rR1 8 none (fun K hK => ?_)
                 obtain ⟨l0, c00, f00, c01, f01, c02, f02⟩ := cells3 (C136.out.m.b 0 rfl)
                 obtain ⟨w137, HW⟩ : ∃ q, Hid (q = (w136.setCell ⟨Y, 1, none⟩ (.slice p8 N8 c8))) := ⟨_, Lib.hid rfl⟩
                 have C137 := Lib.hid (C136.out.mm (W' := w137) (C136.out.m.set 0 rfl (by rw [HW.out]; exact gr_set w136 Y 1 (.slice p8 N8 c8)) (by rw [HW.out]; exact (heap_set (j := 1) (.slice p8 N8 c8) (C136.out.m.b 0 rfl)))))
                 go_simp
                 refine hK.out _ _ trivial (fun _ => ?_)
                 clear hK K
                 try simp only [Act.put, q0, q1, q2]
                 refine wpAnyH_done (by kernel_rfl) ?_ _
                 rw [← HW.out]
                 clear HW C136 l0 c00 f00 c01 f01 c02 f02
                 have C138 := Lib.hid (C137.out.nrm (bs' := [(Y, #[.string s3, .slice p8 N8 c8, .slice none 0 0], 64)]) rfl)
                 clear C137
                 go_wp2_with fail
                 have HL9 : Hid ((tr2 ++ [s6]).length ≤ k6) := Lib.hid (by have h1 := HLZ.out; simp only [List.length_append, List.length_cons, List.length_nil]; omega)
                 go_roundg (n - k6)
                 case measure => omega
                 case rel => exact ⟨k6, b6, p8, N8, c8, _, rfl, by omega, by omega, HL9, C138⟩
                ·obtain ⟨X139, w139, HX, HW, hx139, C139⟩ := C134.out.boxE #[.string s6] 9
                 go_simp
                 refine hK.out _ _ trivial (fun _ => ?_)
                 clear hK K
                 try simp only [Act.put, q0, q1, q2]
                 rw [← HX.out, ← HW.out]
                 clear HX HW C134
                 refine rR1 1 (some 57) (fun K hK => ?_)
                 obtain ⟨l1, c10, f10, c11, f11, c12, f12⟩ := cells3 (C139.out.m.b 1 rfl)
                 go_simp
                 refine hK.out _ _ trivial (fun _ => ?_)
                 clear hK K
                 try simp only [Act.put, q0, q1, q2]
                 clear l1 c10 f10 c11 f11 c12 f12
                 refine rR1 6 (some 62) (fun K hK => ?_)
                 refine C139.out.pushS tkN rfl HLEN (by rfl) _ _ (by rfl) (by rfl) (by rfl) ?_
                 intro p8 N8 c8 w140 HN8 C140
                 clear C139
                 refine hK.out _ _ trivial (fun _ => ?_)
                 clear hK K
                 try simp only [Act.put, q0, q1, q2]
                 refine rT 7 (some 63) ?_
                 try simp only [Act.put, q0, q1, q2]
                 refine rR1 8 none (fun K hK => ?_)
                 obtain ⟨l0, c00, f00, c01, f01, c02, f02⟩ := cells3 (C140.out.m.b 0 rfl)
                 obtain ⟨w141, HW⟩ : ∃ q, Hid (q = (w140.setCell ⟨Y, 1, none⟩ (.slice p8 N8 c8))) := ⟨_, Lib.hid rfl⟩
                 have C141 := Lib.hid (C140.out.mm (W' := w141) (C140.out.m.set 0 rfl (by rw [HW.out]; exact gr_set w140 Y 1 (.slice p8 N8 c8)) (by rw [HW.out]; exact (heap_set (j := 1) (.slice p8 N8 c8) (C140.out.m.b 0 rfl)))))
                 go_simp
                 refine hK.out _ _ trivial (fun _ => ?_)
                 clear hK K
                 try simp only [Act.put, q0, q1, q2]
                 refine wpAnyH_done (by kernel_rfl) ?_ _
                 rw [← HW.out]
                 clear HW C140 l0 c00 f00 c01 f01 c02 f02
                 have C142 := Lib.hid (C141.out.nrm (bs' := [(Y, #[.string s3, .slice p8 N8 c8, .slice none 0 0], 64)]) rfl)
                 clear C141
                 go_wp2_with fail
                 have HL9 : Hid ((tr2 ++ [s6]).length ≤ k6) := Lib.hid (by have h1 := HLZ.out; simp only [List.length_append, List.length_cons, List.length_nil]; omega)
                 go_roundg (n - k6)
                 case measure => omega
                 case rel => exact ⟨k6, b6, p8, N8, c8, _, rfl, by omega, by omega, HL9, C142⟩
              ·clear C123
               go_wp2_with fail
               refine (C124.out.exp ⟨#[41]⟩ (by decide)).mono ?_
               rintro e w144 ⟨k143, b143, rfl, hle143, hn143, -, C144⟩
               clear C124
               go_wp2_with fail
               go_meet
               exact ⟨k143, b143, pz, Nz, cz, _, tr2, by omega, by omega, Lib.hid (C144.out.mm C144.out.m.asStr)⟩
        case rest =>
         obtain ⟨kq, bq, pq, Nq, cq, Bq, lq, hkq, hnq, C145⟩ := hcut
         clear C58 hlp hnp
         have C146 := Lib.hid (C145.out.unf HFP.out)
         clear C145
         go_wp2_with fail
         refine (C146.out.callB (blockR_any C146.out.hL HG.out _ _ _ C146.out.ps)).mono ?_
         rintro e w147 ⟨b5l, p5, N5, c5, k5, b5, rfl, hlt5, hn5, -, C147⟩
         clear C146
         obtain ⟨l0, c00, f00, c01, f01, c02, f02⟩ := cells3 (C147.out.m.b 0 rfl)
         obtain ⟨w148, HW⟩ : ∃ q, Hid (q = (w147.setCell ⟨Y, 2, none⟩ (.slice p5 N5 c5))) := ⟨_, Lib.hid rfl⟩
         have C148 := Lib.hid (C147.out.mm (W' := w148) (C147.out.m.set 0 rfl (by rw [HW.out]; exact gr_set w147 Y 2 (.slice p5 N5 c5)) (by rw [HW.out]; exact (heap_set (j := 2) (.slice p5 N5 c5) (C147.out.m.b 0 rfl)))))
         go_upto_region 18 with fail
         rw [← HW.out]
         clear HW C147 l0 c00 f00 c01 f01 c02 f02
         have C149 := Lib.hid (C148.out.nrm (bs' := [(Y, #[.string s3, .slice pq Nq cq, .slice p5 N5 c5], 64)]) rfl)
         clear C148
         have C150 := Lib.hid (C149.out.join (rd := fun U => ReadM U ⟨s3, lq, b5l⟩ (.slice pq Nq cq) (.slice p5 N5 c5)) (mn_M _ _ _) (fun U h1 h2 => ⟨hsz3, h2, h1⟩))
         clear C149
         have C151 := Lib.hid (C50.out.inner C150.out (mn_M _ _ _))
         clear C150 C50
         obtain ⟨l0, c00, f00, c01, f01, c02, f02⟩ := cells3 (C151.out.m.b 0 rfl)
         obtain ⟨l1, c10, f10, c11, f11, c12, f12, c13, f13⟩ := cells4 (C151.out.m.b 1 rfl)
         obtain ⟨X153, w153, HX, HW, hx153, C153⟩ := C151.out.boxE #[.string s3, .slice pq Nq cq, .slice p5 N5 c5] 64
         clear C151
         go_wp2_with (at_builtin; rw [← HX.out, ← HW.out]; refine C153.out.pushW tkM (x := ((⟨s3, lq, b5l⟩, .slice pq Nq cq, .slice p5 N5 c5) : MT)) rfl (by have h1 := HLM.out; have h2 := C153.out.hL.few; omega) rfl _ _ rfl rfl rfl ?_; intro p9 N9 c9 w152 HN9 C152; obtain ⟨m0, m1, m2, m3, m4, m5, m6, m7, m8⟩ := cells4 (C152.out.m.b 1 rfl))
         clear HX HW C153 hx153 m0 m1 m2 m3 m4 m5 m6 m7 m8 l0 c00 f00 c01 f01 c02 f02 l1 c10 f10 c11 f11 c12 f12 c13 f13
         have C154 := Lib.hid (C152.out.mm (C152.out.m.tl))
         clear C152
         have C155 := Lib.hid (C154.out.mm (C154.out.m.set 0 rfl (gr_set _ _ 3 (.slice p9 N9 c9)) (heap_set (j := 3) (.slice p9 N9 c9) (C154.out.m.b 0 rfl))))
         clear C154
         have C156 := Lib.hid (C155.out.spc (G' := fun f ts => if true then Pa.pMs f ((tm ++ [((⟨s3, lq, b5l⟩, .slice pq Nq cq, .slice p5 N5 c5) : MT)]).map Prod.fst) ts else .ok [] ts) (fun f ts => by rw [map_snoc]; rfl))
         clear C155
         have HL9 : Hid ((tm ++ [((⟨s3, lq, b5l⟩, .slice pq Nq cq, .slice p5 N5 c5) : MT)]).length ≤ k5) := Lib.hid (by have h1 := HLM.out; simp only [List.length_append, List.length_cons, List.length_nil]; omega)
         go_roundg (n - k5)
         case measure => omega
         case rel => exact ⟨k5, b5, p9, N9, c9, _, rfl, by omega, by omega, HL9, Lib.hid (fun h => by cases h), C156⟩
       ·clear C49
        have C157 := Lib.hid (C50.out.unf HF2.out)
        clear C50
        go_wp2_with fail
        refine (C157.out.exp ⟨#[125]⟩ (by decide)).mono ?_
        rintro e w159 ⟨k158, b158, rfl, hle158, hn158, -, C159⟩
        clear C157
        obtain ⟨l0, c00, f00, c01, f01, c02, f02, c03, f03⟩ := cells4 (C159.out.m.b 0 rfl)
        obtain ⟨l1, c10, f10, c11, f11, c12, f12, c13, f13⟩ := cells4 (C159.out.m.b 1 rfl)
        go_wp2_with fail
        exact C159.out.retC (x := ⟨s1, true, tr, tm.map Prod.fst⟩) 1 rfl trivial Tryz.results28 rfl rfl (fun U b o => ⟨HSZ.out, HFS.out U (fun j _ _ _ h => b (j + 2) (by omega) h), o 0 rfl⟩)
end Go.Proofs.YtdckddkalgnlpaaGreatDoor
