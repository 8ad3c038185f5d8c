/-
  Several texts in one: CoRows, CoCheck.
-/
import Derived.Test.YtcnmfcgmnkncaaaGreatDoorF16
import Derived.Test.YtcnmfcgmnkncaaaGreatDoorF23
import Derived.Lib.SliceRun
namespace Go.Proofs.YtcnmfcgmnkncaaaGreatDoor
namespace Cw
open Go.RowKit Go.Maps Pw
set_option maxRecDepth 100000 in
set_option maxHeartbeats 4000000 in
theorem clone_any (v : Value) (l : List ByteArray) (w : World) (h : SlStr w v l) (hl : l.length ≤ 1000000) :
 Calls Tryz.prog 34 #[v] w fun e w' => ∃ v', e = .returned v' ∧ Below w.heap.size w w' ∧ SlStr (hide (upL w.heap.size []) w') v' l := by
 obtain ⟨i0, hi, hz0, hz1, hz2⟩ := info_parts strInfo
 have q49 : ∀ (w : World) (a : Option Addr) (n c n' c' : Nat), (binOp .eql 49 (.slice a n c) (.slice none n' c')).run Tryz.prog w = .ok (.bool a.isNone) w := fun w a n c n' c' => Lib.run_eql_slice_nil w _ _ a n c n' c' Tryz.underlying49
 have u49 : ∀ w, Sem.run Tryz.prog (underlying 49) w = .ok (TypeDesc.slice 9) w := run_underlying Tryz.underlying49
 obtain ⟨p, c, rfl, hm, hn, hx⟩ := h
 by_cases h0 : l = []
 ·subst h0
  rw [List.length_nil]
  cases p with
  | none =>
    clear hx hn hm hl
    go_enter Tryz.func34, Tryz.ntmps34
    go_wp2
    go_ret
    exact ⟨_, rfl, Below.refl _ _, slStr_nil _ _ _⟩
  | some a =>
    clear hx hn hm hl
    go_enter Tryz.func34, Tryz.ntmps34
    go_wp2_with (at_builtin; refine wpList_append_own _ rfl _ _ 49 rfl w.heap.size 9 i0 (.string ⟨#[]⟩) 1 16 Tryz.underlying49 hi hz0 hz1 hz2 rfl (by decide) _ _ _ rfl (World.ownsRow_made w #[] 0 (Nat.le_refl _) (Nat.zero_le _) rfl) a 0 c [] rfl rfl (by intro j u hj; simp at hj) (by intro u hu; cases hu) (by unfold maxLen; omega) (by omega) (by simp) ?_)
    intro v' w1 hown hgrow hnil
    go_wp2
    go_ret
    have hown2 : w1.ownsRow w.heap.size 9 1 v' ([] : List ByteArray).length (flatV nCells []) := by simpa [flatV] using hown
    exact ⟨v', rfl, ((Below.refl _ w).alloc (Nat.le_refl _) _).grown hgrow (by simp) (by intro k hk; simp [Value.ownBlock] at hk; omega), slStr_own (hide_own hown2 (fun k hk => upL_ge (own_lt hown2 hk).1 (by simp))) (fun x hx => by cases hx)⟩
 ·obtain ⟨b, o, rfl⟩ : ∃ b o, p = some ⟨b, o, none⟩ := by
   cases l with
   | nil => exact absurd rfl h0
   | cons a r => obtain ⟨_, b, o, e, _⟩ := hx 0 a rfl; exact ⟨b, o, e⟩
  have hc : ∀ j s, l[j]? = some s → w.cell? ⟨b, o + j, none⟩ = some (.string s) := fun j s hj => by
   obtain ⟨_, b', o', e, _, h2⟩ := hx j s hj
   cases e
   exact h2
  have A := Lib.hid hc
  have HS : Hid (∀ s ∈ l, s.size ≤ maxLen) := Lib.hid (fun s hs => by
   obtain ⟨j, hj⟩ := List.mem_iff_getElem?.1 hs
   exact (hx j s hj).1)
  obtain ⟨n, hln⟩ : ∃ q, l.length = q := ⟨_, rfl⟩
  rw [hln] at hl hm ⊢
  have HN := Lib.hid hln
  clear hc hx hn h0 hln
  go_enter Tryz.func34, Tryz.ntmps34
  go_wp2_with (at_builtin; refine wpList_append_own _ rfl _ _ 49 rfl w.heap.size 9 i0 (.string ⟨#[]⟩) 1 16 Tryz.underlying49 hi hz0 hz1 hz2 rfl (by decide) _ _ _ rfl (World.ownsRow_made w #[] 0 (Nat.le_refl _) (Nat.zero_le _) rfl) ⟨b, o, none⟩ n c (flatV nCells l) rfl ?qc1 ?qc2 ?qc3 ?qc4 ?qc5 ?qc6 ?_)
  case qc1 => rw [flatV_len nCells 1 nCells_len, HN.out]
  case qc2 =>
   intro j u hj
   rw [Addr.add_lit]
   refine Lib.cell?_alloc_some _ ?_
   have hlt := (List.getElem?_eq_some_iff.1 hj).1
   rw [flatV_len nCells 1 nCells_len] at hlt
   have hx := List.getElem?_eq_getElem (l := l) (i := j) (by omega)
   have h2 := flatV_get nCells 1 nCells_len l j _ 0 (by decide) hx
   rw [Nat.mul_one, Nat.add_zero, hj] at h2
   have h3 : u = .string l[j] := by injection h2
   rw [h3]
   exact A.out j _ hx
  case qc3 => intro u hu; obtain ⟨x, _, hx⟩ := List.mem_flatMap.1 hu; obtain rfl := List.mem_singleton.1 hx; rfl
  case qc4 => unfold maxLen; omega
  case qc5 => omega
  case qc6 => simp
  intro v' w1 hown hgrow hnil
  go_wp2
  go_ret
  have hown2 : w1.ownsRow w.heap.size 9 1 v' l.length (flatV nCells l) := by rw [HN.out]; simpa using hown
  exact ⟨v', rfl, ((Below.refl _ w).alloc (Nat.le_refl _) _).grown hgrow (by simp) (by intro k hk; simp [Value.ownBlock] at hk; omega), slStr_own (hide_own hown2 (fun k hk => upL_ge (own_lt hown2 hk).1 (by simp))) HS.out⟩
structure PS (B0 : Nat) (done : List CcT) (ms : List MmT) (vo vm : Value) (W : World) : Prop where
 out : W.ownsRow B0 52 4 vo done.length (flatV ccCells done)
 mts : W.ownsRow B0 59 5 vm ms.length (flatV mmCells ms)
 nd : ∀ q, vo.ownBlock = some q → vm.ownBlock ≠ some q
def AC (l : List CcT) : World → Prop := fun U => ∀ x ∈ l, ReadCc U x
def AM (l : List MmT) : World → Prop := fun U => ∀ x ∈ l, ReadMm U x
def R1 (x : MmT) : World → Prop := fun U => ReadMm U x
def RMm (v : Value) (l : List Co.Cm) : World → Prop := fun U => SlMm U v l
theorem ac_mn {l : List CcT} : Mn (AC l) := fun _ _ hi h x hx => readCc_mono _ _ _ hi (h x hx)
theorem am_mn {l : List MmT} : Mn (AM l) := fun _ _ hi h x hx => readMm_mono _ _ _ hi (h x hx)
theorem r1_mn {x : MmT} : Mn (R1 x) := fun _ _ hi h => readMm_mono _ _ _ hi h
theorem rmm_mn {v : Value} {l : List Co.Cm} : Mn (RMm v l) := fun _ _ hi h => SlMm.inc h hi
abbrev Mp (w : World) (done : List CcT) (ms : List MmT) (vo vm : Value) (bs : List Bk) (os : List (World → Prop)) (W : World) : Prop := Mz w.heap.size w.heap.size w [] (PS w.heap.size done ms vo vm) (ownL vo ++ ownL vm) bs os W
section
variable {w W W' : World} {B0 : Nat} {done : List CcT} {ms : List MmT} {vo vm v' : Value} {bs : List Bk} {os : List (World → Prop)}
theorem PS.keep (h : PS B0 done ms vo vm W) (_ : W.heap.size ≤ W'.heap.size) (hk : ∀ b, b < W.heap.size → (b ∈ ownL vo ++ ownL vm ∨ b < B0) → W'.heap[b]? = W.heap[b]?) : PS B0 done ms vo vm W' :=
 ⟨own_kept h.out (fun q hq => hk q (own_lt h.out hq).2 (.inl (List.mem_append.2 (.inl (ownL_mem.2 hq))))), own_kept h.mts (fun q hq => hk q (own_lt h.mts hq).2 (.inl (List.mem_append.2 (.inr (ownL_mem.2 hq))))), h.nd⟩
theorem PS.ol (h : PS B0 done ms vo vm W) : ∀ b ∈ ownL vo ++ ownL vm, b < W.heap.size ∧ B0 ≤ b := by
 intro b hb
 rcases List.mem_append.1 hb with hb | hb
 ·exact (own_lt h.out (ownL_mem.1 hb)).symm
 ·exact (own_lt h.mts (ownL_mem.1 hb)).symm
theorem ps_nil (B0 : Nat) (W : World) : PS B0 [] [] (.slice none 0 0) (.slice none 0 0) W := ⟨⟨by simp [flatV], .inl ⟨rfl, rfl⟩⟩, ⟨by simp [flatV], .inl ⟨rfl, rfl⟩⟩, fun q e => by cases e⟩
theorem Mp.start (w : World) : Mp w [] [] (.slice none 0 0) (.slice none 0 0) [] [AC []] w :=
 Mz.start (ps_nil _ _) (fun hs hk hq => PS.keep hq hs hk) (Nat.le_refl _) (Nat.le_refl _) (fun b hb => by cases hb) (fun r hr => by rw [List.mem_singleton.1 hr]; exact ⟨ac_mn, fun x hx => by cases hx⟩)
theorem Mp.pushM {x : MmT} (h : Mp w done ms vo vm bs (R1 x :: AM ms :: os) W) (hr : W'.ownsRow w.heap.size 59 5 v' (ms ++ [x]).length (flatV mmCells (ms ++ [x]))) (hg : W.grownBy W' vm.ownBlock) (hf : v'.ownBlock = vm.ownBlock ∨ v'.ownBlock = some W.heap.size) :
 Mp w done (ms ++ [x]) vo v' bs (AM (ms ++ [x]) :: os) W' := by
 have hlt := h.q.ol
 have hq : PS w.heap.size done (ms ++ [x]) vo v' W' := by
  refine ⟨own_kept h.q.out (fun q hq => hg.block q (own_lt h.q.out hq).2 (fun e => h.q.nd q hq e.symm)), hr, fun q hq e => ?_⟩
  rcases hf with hf | hf
  ·exact h.q.nd q hq (hf ▸ e)
  ·rw [hf] at e
   injection e with e
   have := (own_lt h.q.out hq).2
   omega
 have hgr : Gr W (ownL vo ++ ownL vm) W' (ownL vo ++ ownL v') := by
  refine ⟨hg.os, hg.tape, hg.output, hg.size, fun b hb hn => hg.block b hb (fun e => hn (List.mem_append.2 (.inr (ownL_mem.2 e.symm)))), fun b hb => ?_⟩
  rcases List.mem_append.1 hb with hb | hb
  ·exact .inl (List.mem_append.2 (.inl hb))
  ·rcases hf with hf | hf
   ·exact .inl (List.mem_append.2 (.inr (ownL_mem.2 (hf ▸ ownL_mem.1 hb))))
   ·have e := ownL_mem.1 hb
    rw [hf] at e
    injection e with e
    exact .inr (by omega)
 have h2 := Mz.call h hgr hq.ol hq (fun hs hk hq => hq.keep hs hk)
 have h3 : AM (ms ++ [x]) (hide (upL w.heap.size ((ownL vo ++ ownL v') ++ bs.map Prod.fst)) W') := fun y hy => by
  rcases List.mem_append.1 hy with hy | hy
  ·exact h2.o 1 rfl y hy
  ·rw [List.mem_singleton.1 hy]
   exact h2.o 0 rfl
 exact (h2.get am_mn h3).few (fun r hr => by
  rcases List.mem_cons.1 hr with rfl | hr
  ·exact List.mem_cons_self ..
  ·exact List.mem_cons_of_mem _ (List.mem_cons_of_mem _ (List.mem_cons_of_mem _ hr)))
theorem Mp.seal (h : Mp w done ms vo vm bs (AM ms :: os) W) : Mp w done [] vo (.slice none 0 0) bs (RMm vm (ms.map Prod.fst) :: os) W := by
 have hq : PS w.heap.size done [] vo (.slice none 0 0) W := ⟨h.q.out, ⟨by simp [flatV], .inl ⟨rfl, rfl⟩⟩, fun q _ e => by cases e⟩
 have hl : ∀ b ∈ ownL vo ++ ownL (.slice none 0 0), b ∈ ownL vo ++ ownL vm := fun b hb => by
  rcases List.mem_append.1 hb with hb | hb
  ·exact List.mem_append.2 (.inl hb)
  ·cases hb
 have h2 := Mz.call h (Gr.wide (Gr.refl W _) (fun b hb => .inl (hl b hb))) (fun b hb => h.ol b (hl b hb)) hq (fun hs hk hq => hq.keep hs hk)
 have hvis : ∀ k, vm.ownBlock = some k → upL w.heap.size ((ownL vo ++ ownL (.slice none 0 0)) ++ bs.map Prod.fst) k = false := fun k hk => by
  refine upL_ge (own_lt h.q.mts hk).1 (fun hm => ?_)
  rcases List.mem_append.1 hm with hm | hm
  ·rcases List.mem_append.1 hm with hm | hm
   ·exact h.q.nd k (ownL_mem.1 hm) hk
   ·cases hm
  ·exact (h.lts hm).2.2 (List.mem_append.2 (.inr (ownL_mem.2 hk)))
 have h3 : RMm vm (ms.map Prod.fst) (hide (upL w.heap.size ((ownL vo ++ ownL (.slice none 0 0)) ++ bs.map Prod.fst)) W) := slMm_own (hide_own h.q.mts hvis) (h2.o 0 rfl)
 exact (h2.get rmm_mn h3).few (fun r hr => by
  rcases List.mem_cons.1 hr with rfl | hr
  ·exact List.mem_cons_self ..
  ·exact List.mem_cons_of_mem _ (List.mem_cons_of_mem _ hr))
theorem Mp.pushC {x : CcT} (h : Mp w done [] vo (.slice none 0 0) bs (RMm x.2.2 x.1.methods :: RN x.2.1 x.1.fields :: AC done :: os) W) (hx : x.1.name.size ≤ maxLen) (hr : W'.ownsRow w.heap.size 52 4 v' (done ++ [x]).length (flatV ccCells (done ++ [x]))) (hg : W.grownBy W' vo.ownBlock) (hf : v'.ownBlock = vo.ownBlock ∨ v'.ownBlock = some W.heap.size) :
 Mp w (done ++ [x]) [] v' (.slice none 0 0) bs (AC (done ++ [x]) :: os) W' := by
 have hq : PS w.heap.size (done ++ [x]) [] v' (.slice none 0 0) W' := ⟨hr, ⟨by simp [flatV], .inl ⟨rfl, rfl⟩⟩, fun q _ e => by cases e⟩
 have hgr : Gr W (ownL vo ++ ownL (.slice none 0 0)) W' (ownL v' ++ ownL (.slice none 0 0)) := by
  refine ⟨hg.os, hg.tape, hg.output, hg.size, fun b hb hn => hg.block b hb (fun e => hn (List.mem_append.2 (.inl (ownL_mem.2 e.symm)))), fun b hb => ?_⟩
  rcases List.mem_append.1 hb with hb | hb
  ·rcases hf with hf | hf
   ·exact .inl (List.mem_append.2 (.inl (ownL_mem.2 (hf ▸ ownL_mem.1 hb))))
   ·have e := ownL_mem.1 hb
    rw [hf] at e
    injection e with e
    exact .inr (by omega)
  ·cases hb
 have h2 := Mz.call h hgr hq.ol hq (fun hs hk hq => hq.keep hs hk)
 have h3 : AC (done ++ [x]) (hide (upL w.heap.size ((ownL v' ++ ownL (.slice none 0 0)) ++ bs.map Prod.fst)) W') := fun y hy => by
  rcases List.mem_append.1 hy with hy | hy
  ·exact h2.o 2 rfl y hy
  ·rw [List.mem_singleton.1 hy]
   exact ⟨hx, h2.o 1 rfl, h2.o 0 rfl⟩
 exact (h2.get ac_mn h3).few (fun r hr => by
  rcases List.mem_cons.1 hr with rfl | hr
  ·exact List.mem_cons_self ..
  ·exact List.mem_cons_of_mem _ (List.mem_cons_of_mem _ (List.mem_cons_of_mem _ (List.mem_cons_of_mem _ hr))))
theorem Mp.fin (h : Mp w done ms vo vm bs (AC done :: os) W) : Below w.heap.size w W ∧ SlCc (hide (upL w.heap.size []) W) vo (done.map Prod.fst) := by
 refine ⟨h.gr.fresh, slCc_own (hide_own h.q.out (fun k hk => upL_ge (own_lt h.q.out hk).1 (by simp))) (ac_mn _ _ (hid_mono (Nat.le_refl _) (fun _ hb => by cases hb)) (h.o 0 rfl))⟩
end
theorem check_valid {cs : List Tr.C} (h : Ck.check cs = []) : Tr.validP cs = true := by
 unfold Ck.check at h
 split at h
 ·assumption
 ·cases h
theorem Mz.retC {B0 V : Nat} {w W : World} {o0 ow : List Nat} {Q : World → Prop} {bs : List Bk} {os : List (World → Prop)} {R : Nat} {x0 y0 eu : Value} (h : Mz B0 V w o0 Q ow bs os W) (i : Nat) (hi : bs[i]? = some (R, #[y0], 29)) {fn : Func} {q u : Tmp} {A : Act} (hr : fn.results = #[.cell q 29, .tmp u]) (hq : A.tmps.getD q undef = .pointer (some ⟨R, 0, none⟩)) (hu : A.tmps.getD u undef = eu) (hd : A.defers = []) {Post : Ending → World → Prop}
 (hp : ∀ W', Mz B0 V w o0 Q ow (bs.set i (R, #[x0], 29)) os W' → Post (.returned (.tuple #[.agg #[x0], eu])) W') :
 bodyPost Tryz.prog fn Post .ret A (W.setCell ⟨R, 0, none⟩ x0) := by
 have h2 := h.set i hi (gr_set W R 0 x0) (heap_set (j := 0) x0 (h.b i hi))
 have hil : i < bs.length := (List.getElem?_eq_some_iff.1 hi).1
 have hS := h2.b i (X := R) (cs := #[x0]) (by rw [List.getElem?_set, if_pos rfl, if_pos hil]; rfl)
 subst hu
 exact bodyPost_ret (v := .tuple #[.agg #[x0], A.tmps.getD u undef]) (results_row_tmp hr _ _ R _ _ _ _ hq hS Tryz.underlying29 rfl (by kernel_rfl)) hd (hp _ h2)
def PP (cs : List Tr.C) (w : World) (e : Ending) (w' : World) : Prop :=
 Below w.heap.size w w' ∧ ∃ v, ((Ck.check cs = [] ∧ ∃ l, Co.ccsOf cs cs = some l ∧ e = .returned (.tuple #[.agg #[v], .int .i64 0]) ∧ SlCc (hide (upL w.heap.size []) w') v l) ∨
  (v = .slice none 0 0 ∧ ∃ n : Nat, e = .returned (.tuple #[.agg #[v], .int .i64 n]) ∧ ((∃ r, Ck.check cs = n :: r) ∨ (Ck.check cs = [] ∧ Co.ccsOf cs cs = none ∧ n = 8))))
theorem pp_bad {cs : List Tr.C} {w w' : World} {n : Nat} {r : List Nat} (h : Ck.check cs = n :: r) (hb : Below w.heap.size w w') : PP cs w (.returned (.tuple #[.agg #[.slice none 0 0], .int .i64 n])) w' := ⟨hb, _, .inr ⟨rfl, n, rfl, .inl ⟨r, h⟩⟩⟩
theorem pp_large {cs : List Tr.C} {w w' : World} (h : Ck.check cs = []) (h2 : Co.ccsOf cs cs = none) (hb : Below w.heap.size w w') : PP cs w (.returned (.tuple #[.agg #[.slice none 0 0], .int .i64 8])) w' := ⟨hb, _, .inr ⟨rfl, 8, rfl, .inr ⟨h, h2, rfl⟩⟩⟩
theorem pp_ok {cs : List Tr.C} {w w' : World} {l : List Co.Cc} {v : Value} (h : Ck.check cs = []) (h2 : Co.ccsOf cs cs = some l) (hb : Below w.heap.size w w') (hs : SlCc (hide (upL w.heap.size []) w') v l) : PP cs w (.returned (.tuple #[.agg #[v], .int .i64 0])) w' := ⟨hb, v, .inl ⟨h, l, h2, rfl, hs⟩⟩
end Cw
end Go.Proofs.YtcnmfcgmnkncaaaGreatDoor
namespace Go.Proofs.YtcnmfcgmnkncaaaGreatDoor
open Go.RowKit Go.Maps
structure CoEnv (w : World) : Prop where
 syn : SynEnv w
 codes : ∀ j, j < 13 → w.cell? ⟨0, j, none⟩ = some (.int .i64 (Ck.code j : Nat))
theorem CoEnv.keep {w w' : World} (h : CoEnv w) (hb : Below w.heap.size w w') : CoEnv w' := ⟨h.syn.keep hb, fun j hj => cell_keep' hb (h.codes j hj)⟩
set_option maxRecDepth 100000 in
set_option maxHeartbeats 8000000 in
theorem check_any (v : Value) (cs : List Tr.C) (w : World) (hE : CoEnv w) (h : SlC w v cs) (hsm : Ck.Small cs) (hfit : Tr.fitP cs) :
 Calls Tryz.prog 33 #[.agg #[v]] w (CheckPost cs w) := by
 obtain ⟨i0, hi0, hz0, hz1, hz2⟩ := info_parts errInfo
 obtain ⟨pv, cpv, rfl⟩ := h.form
 have hbx := below_box w (.cells #[.slice pv cs.length cpv] 24)
 have hcall := valid_any _ cs _ ((hE.keep hbx).syn) hfit (h.keep hbx)
 have HH := Lib.hid h
 have HE := Lib.hid hE
 cases hv : Tr.validP cs
 ·rw [hv] at hcall
  have hck : Hid (Ck.check cs = [1]) := by show _ = _; unfold Ck.check; rw [hv]; rfl
  have HC := Lib.hid hcall
  have HB := Lib.hid hbx
  obtain ⟨CN, hCN⟩ : ∃ N, cs.length = N := ⟨_, rfl⟩
  rw [hCN] at HC HB ⊢
  clear hE h hcall hv hbx hCN HH HE
  go_enter Tryz.func33, Tryz.ntmps33
  go_wp2_with fail
  refine HC.out.mono ?_
  rintro e w2 ⟨rfl, hb2⟩
  go_wp2_with fail
  go_ret
  have hB2 := HB.out.trans (hb2.mono HB.out.size)
  refine ⟨_, rfl, ?_, hB2.alloc hB2.size _⟩
  rw [hck.out]
  exact ⟨rfl, .inr ⟨w2.heap.size, 1, #[.int .i64 1], rfl, hB2.size, (MapKept.heap_alloc w2 _).1, Nat.le_refl _, by decide, rfl, rfl⟩⟩
 ·rw [hv] at hcall
  have hck := Lib.hid (check_rows cs hv)
  have HC := Lib.hid hcall
  have HB := Lib.hid hbx
  have KF : Hid (∀ W, Below w.heap.size w W → Calls Tryz.prog 55 #[.agg #[.slice pv cs.length cpv]] W (FaultsPost cs W)) := fun W hb => faults_any _ cs W (h.keep hb) hv hsm
  have hrl := Ck.rowsC_len cs cs 0
  have hcnt := hsm.cnt
  have hlen : (Ck.rows cs).length ≤ 13000000 := by unfold Ck.rows; omega
  obtain ⟨R, hR⟩ : ∃ r, Ck.rows cs = r := ⟨_, rfl⟩
  have hlt13 : Hid (∀ x ∈ R, x.2 < 13) := by rw [← hR]; exact rowsC_lt cs cs 0
  rw [hR] at hlen hck
  have HR := Lib.hid hR
  have c0 := box_cell w #[.slice pv cs.length cpv] 24 0 _ rfl
  obtain ⟨CN, hCN⟩ : ∃ N, cs.length = N := ⟨_, rfl⟩
  rw [hCN] at HC HB KF c0 ⊢
  have C0 := Lib.hid c0
  clear hE h hcall hv hbx hCN HH hsm hfit hrl hcnt hR c0
  go_enter Tryz.func33, Tryz.ntmps33
  go_wp2_with fail
  refine HC.out.mono ?_
  rintro e w2 ⟨rfl, hb2⟩
  have hB2 := Lib.hid (HB.out.trans (hb2.mono HB.out.size))
  have c0 := cell_keep' hb2 C0.out
  clear hb2
  go_wp2_with fail
  refine (KF.out _ hB2.out).mono ?_
  rintro e w3 ⟨fv, rfl, ho3, hb3⟩
  rw [HR.out] at ho3
  obtain ⟨pf, cf, rfl⟩ := own_form ho3
  have hB3 := Lib.hid (hB2.out.trans (hb3.mono hB2.out.size))
  have HO3 := Lib.hid ho3
  have HE3 := Lib.hid (HE.out.keep hB3.out)
  obtain ⟨N, hN⟩ : ∃ N, R.length = N := ⟨_, rfl⟩
  have HN := Lib.hid hN
  rw [hN] at hlen ⊢
  clear hb3 ho3 c0 hN KF
  go_wp2_with fail
  go_loopg [3, 13] N (fun g s3 s13 wr => ∃ k : Nat, s13 = .int .i64 k ∧ k ≤ N ∧ g = N - k ∧ Hid (wr.ownsRow w3.heap.size 30 1 s3 k (codeCells ((R.take k).map fun x => Ck.code x.2))) ∧ Hid (Below w3.heap.size w3 wr))
  case atStart => exact ⟨0, rfl, Nat.zero_le _, rfl, Lib.hid (by simpa [codeCells] using World.ownsRow_nil w3 w3.heap.size 30 1), Lib.hid (Below.refl _ _)⟩
  case round =>
   obtain ⟨k, rfl, hk, rfl, HO, HBR⟩ := hrel
   by_cases hlt : k < N
   ·obtain ⟨x, hx⟩ : ∃ x, R[k]? = some x := ⟨_, List.getElem?_eq_getElem (by rw [HN.out]; exact hlt)⟩
    obtain ⟨g3, cap3, e3, hg3, hnc, q0, q1⟩ := row_get HO3.out hx
    injection e3 with e31 e32 e33
    subst e31
    subst e33
    have r0 := cell_keep' HBR.out q0
    have r1 := cell_keep' HBR.out q1
    have hx13 := hlt13.out x (List.mem_of_getElem? hx)
    have hcd := (HE3.out.keep HBR.out).codes x.2 hx13
    have hgl := cell_lt' hcd
    have HX := Lib.hid hx
    have hsz := HBR.out.size
    obtain ⟨nm, t⟩ := x
    simp only [] at r0 r1 hx13 hcd
    clear q0 q1 e32 hx
    go_wp2_with (at_builtin; refine wpList_append_own _ rfl _ _ 77 rfl w3.heap.size 30 i0 (.int .i64 0) 1 8 Tryz.underlying77 hi0 hz0 hz1 hz2 rfl (by decide) _ _ _ rfl ((HO.out.alloc _).alloc _) ⟨wr.heap.size + 1, 0, none⟩ 1 1 [.int .i64 (Ck.code t : Nat)] rfl rfl (news_cells (cs := #[.int .i64 (Ck.code t : Nat)]) rfl (by simp)) (by simp [Value.oneCell']) (by unfold maxLen; omega) (by omega) (by simp <;> omega) ?_; intro v7 w7 ho7 hg7 _)
    go_roundg (N - (k + 1))
    case measure => omega
    case rel =>
     refine ⟨k + 1, by go_num, by omega, rfl, Lib.hid ?_, Lib.hid (((HBR.out.alloc (by omega) _).alloc (by simp <;> omega) _).grown hg7 (by simp <;> omega) fun q hq => (HO.out.lt q hq).1)⟩
     rw [take_get HX.out, List.map_append]
     unfold codeCells at ho7 ⊢
     rw [List.map_append]
     exact ho7
   ·obtain rfl : k = N := by omega
    go_wp2_with fail
    go_ret
    refine ⟨_, rfl, ?_, hB3.out.trans (HBR.out.mono hB3.out.size)⟩
    rw [hck.out, List.length_map, HN.out]
    have h9 := HO.out
    rw [List.take_of_length_le (by rw [HN.out]; exact Nat.le_refl _)] at h9
    exact own_base h9 hB3.out.size
end Go.Proofs.YtcnmfcgmnkncaaaGreatDoor
