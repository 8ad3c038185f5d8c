/-
  A walk within a walk: what is made there is one thing for the walk around it.
-/
import Derived.Test.YtdckddkalgnlpaaGreatDoorA21
import Derived.Test.YtdckddkalgnlpaaGreatDoorA23
import Derived.Deep.DeepCutAuto
namespace Go.Proofs.YtdckddkalgnlpaaGreatDoor
open Go.RowKit Go.Maps Pw
section
variable {P : Nat} {w W W' : World} {Q Q' : World → Prop} {bs : List Bk} {os : List Im}
theorem Mx.inner {X B : Nat} {cs : Array Value} {t : TypeId} {rd : World → Prop} (h : Mx w P Q bs os W) (d : Mx W P Q' [(X, cs, t)] [im B rd] W') (hm : Mn rd) (hk : ∀ {U U' : World} {row : Option Nat}, U.grownBy U' row → (∀ q, row = some q → w.heap.size ≤ q) → Q' U → Q' U') : Mx w P Q' ((X, cs, t) :: bs) (im W.heap.size rd :: os) W' := by
 have hX := (d.lt 0 rfl).1
 obtain ⟨a0, _, d0, e0⟩ := d.ro _ (List.mem_cons_self ..)
 refine ⟨d.ps, hk, gr_trans h.gr d.gr, h.pw, fun x hx => ?_, ?_, fun o ho => ?_, List.pairwise_cons.2 ⟨fun o ho => ?_, h.pr⟩⟩
 ·rcases List.mem_cons.1 hx with rfl | hx
  ·exact ⟨d.b 0 rfl, Nat.le_trans h.le hX⟩
  ·exact ⟨gr_at d.gr (h.bl x hx).1 (ne_sm (by have := (h.bl x hx).2; have := h.pw; omega)), (h.bl x hx).2⟩
 ·rw [List.map_cons, List.nodup_cons]
  refine ⟨fun hm => ?_, h.nd⟩
  have h2 := (h.lts hm).2
  simp only at h2
  omega
 ·rcases List.mem_cons.1 ho with rfl | ho
  ·refine ⟨h.le, d.gr.size, im_it hm, ?_⟩
   exact d0.fin e0 (fun q hq => by
    rcases hq with hq | hq
    ·exact .inl (Nat.lt_of_lt_of_le hq a0)
    ·rw [List.map_cons] at hq
     rcases List.mem_cons.1 hq with rfl | hq
     ·exact .inr (List.mem_cons_self ..)
     ·exact .inl (Nat.lt_of_lt_of_le (h.lts hq).2 a0))
  ·obtain ⟨a, b, d1, e⟩ := h.ro o ho
   exact ⟨a, Nat.le_trans b d.gr.size, d1, d1.keep d.gr (fun q e => .inl (by injection e with e; have := h.pw; omega)) (d1.more hX e)⟩
 ·obtain ⟨a, b, d1, e⟩ := h.ro o ho
  exact ⟨b, fun q hq => (d1.own e hq).2.1⟩
section
variable {α γ : Type} {f : α → List Value} {kk : Nat} {t te : TypeId} {ok : World → α → Prop} {rl : World → Value → List γ → Prop} {g : α → γ}
theorem Mx.asIm {T : TK f kk t te ok rl g} {B : Nat} {v : Value} {tr : List α} (h : Mx w P Q bs [imR T B v tr] W) : Mx w P Q bs [im B (fun U => rl U v (tr.map g))] W := by
 obtain ⟨a, b, d, e⟩ := h.ro _ (List.mem_cons_self ..)
 refine ⟨h.ps, h.pk, h.gr, h.pw, h.bl, h.nd, fun o ho => ?_, List.pairwise_singleton ..⟩
 rw [List.mem_singleton.1 ho]
 exact ⟨a, b, im_it (T.rmono _ _), d.fin e (fun q hq => hq)⟩
end
end
section
variable {β : Type} {L : List Lex.Tok} {n tbk tc P k0 k : Nat} {b : Bool} {w W W' : World} {p0 : Nat → Pa.R β} {bs : List Bk} {os : List Im} {G G' : Nat → Pa.Toks → Pa.R β}
theorem Cr.inner {α : Type} {p : Nat → Pa.Toks → Pa.R α} {q : Nat → α → Pa.Toks → Pa.R β} {X B k' : Nat} {b' : Bool} {cs : Array Value} {t : TypeId} {rd : World → Prop} {a : α} (h : Cr L n tbk tc P k0 w p0 k b bs os (fun f ts => (p f ts).bind fun a r => q f a r) W) (d : Cr L n tbk tc P k W (fun f => Pa.mv b p (Pa.rest L n k) f) k' b' [(X, cs, t)] [im B rd] (fun _ ts => .ok a ts) W') (hm : Mn rd) : Cr L n tbk tc P k0 w p0 k' b' ((X, cs, t) :: bs) (im W.heap.size rd :: os) (fun f ts => q f a ts) W' :=
 ⟨h.m.inner d.m hm (fun hg hr h2 => RS.kept h.m.pw h.tw hg hr h2), Nat.le_trans h.kk d.kk, h.tw, h.hL, fun x hx => h.ev x (.call (d.ev _ (.const _)) hx)⟩
theorem Cr.takeU (s : ByteArray) (hs : s.data.toList ≠ []) {p q : Nat → Pa.Toks → Pa.R β} (h : Cr L n tbk tc P k0 w p0 k b bs os (fun f ts => Pa.opt s.data.toList (p f) (q f) ts) W) :
 Calls Tryz.prog 64 #[.pointer (some ⟨P, 0, none⟩), .string s] W fun e W' => ∃ (v : Bool) (k' : Nat) (b' : Bool), e = .returned (.bool v) ∧ k ≤ k' ∧ k' ≤ n ∧ Hid (Cr L n tbk tc P k0 w p0 k' b' bs os (fun f ts => if v = true then p f ts else q f ts) W') :=
 (h.take s hs).mono fun _ _ h2 => by
  rcases h2 with ⟨rfl, h3, _, h4⟩ | ⟨rfl, h4⟩
  ·exact ⟨true, _, _, rfl, Nat.le_succ k, h3, Lib.hid (h4.out.spc fun f ts => (if_pos rfl).symm)⟩
  ·exact ⟨false, _, _, rfl, Nat.le_refl k, h.le, Lib.hid (h4.out.spc fun f ts => (if_neg (by decide)).symm)⟩
theorem Cr.strs {B : Nat} {v : Value} {tr : List ByteArray} (h : Cr L n tbk tc P k0 w p0 k b bs [imR tkN B v tr] G W) : ∃ bf : List Bk, Cr L n tbk tc P k0 w p0 k b (bs ++ bf) [] G W ∧ ∀ U : World, (∀ (j : Nat) {X : Nat} {cs : Array Value} {t : TypeId}, bf[j]? = some (X, cs, t) → U.heap[X]? = some (.cells cs t (0, 0))) → SlStr U v tr := by
 have hr : RowOk nCells 1 9 ReadNm B (bs.map Prod.fst) W v tr := h.m.o 0 rfl
 have hB : w.heap.size ≤ B := (h.m.ro _ (List.mem_cons_self ..)).1
 rcases hr.own.2 with hn | ⟨g, cap, cur, rfl, hb, hg, rest⟩
 ·refine ⟨[], by rw [List.append_nil]; exact h.mm h.m.ot, fun U _ => slStr_own (base := 0) ⟨hr.own.1, .inl hn⟩ hr.rd⟩
 ·refine ⟨[(g, cur, 9)], h.mm ⟨h.m.ps, h.m.pk, h.m.gr, h.m.pw, fun x hx => ?_, ?_, (fun _ h => by cases h), List.Pairwise.nil⟩, fun U hU => slStr_own (base := 0) ⟨hr.own.1, .inr ⟨g, cap, cur, rfl, Nat.zero_le _, hU 0 rfl, rest⟩⟩ hr.rd⟩
  ·rcases List.mem_append.1 hx with hx | hx
   ·exact h.m.bl x hx
   ·rw [List.mem_singleton.1 hx]
    exact ⟨hg, Nat.le_trans hB hb⟩
  ·rw [List.map_append, List.nodup_append]
   refine ⟨h.m.nd, by simp, fun a ha b hb2 => ?_⟩
   rw [List.map_singleton, List.mem_singleton] at hb2
   subst hb2
   intro e
   exact hr.nin a ha (by rw [e]; rfl)
end
theorem pC_opt (f : Nat) (ts : Pa.Toks) : Pa.pC f ts = Pa.opt [97, 99, 116, 111, 114] (fun r => Pa.clsBody true f r) (fun r => (Pa.expect [114, 101, 99, 111, 114, 100] r).bind fun _ r => Pa.clsBody false f r) ts := by
 unfold Pa.pC Pa.opt
 cases Pa.is [97, 99, 116, 111, 114] ts <;> rfl
def Pa.meth (f : Nat) (ts : Pa.Toks) : Pa.R Tr.M := (Pa.word 2 ts).bind fun n r => (Pa.pParams f r).bind fun p r => (Pa.pB f r).bind fun b r => .ok ⟨n, p, b⟩ r
theorem Pa.R.bind_assoc {α β γ : Type} (x : Pa.R α) (f : α → Pa.Toks → Pa.R β) (g : β → Pa.Toks → Pa.R γ) : (x.bind f).bind g = x.bind fun a r => (f a r).bind g := by cases x <;> rfl
theorem pMs_m (l : List Tr.M) (f : Nat) (ts : Pa.Toks) : Pa.pMs (f + 1) l ts = Pa.opt [111, 110] (fun r => (Pa.meth f r).bind fun m r => Pa.pMs f (l ++ [m]) r) (fun r => .ok l r) ts := by
 rw [pMso]
 unfold Pa.opt Pa.meth
 split
 ·simp only [Pa.R.bind_assoc]
  rfl
 ·rfl
end Go.Proofs.YtdckddkalgnlpaaGreatDoor
