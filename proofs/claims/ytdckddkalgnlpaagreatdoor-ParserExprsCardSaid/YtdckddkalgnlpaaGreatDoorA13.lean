/-
  Several texts in one: PrCx, TrAllE, TrAllS, TrProgC, TrAllN, TrAllM, TrAllC, SyExpr, SyClassB.
-/
import Derived.Test.YtdckddkalgnlpaaGreatDoorA12
import Derived.Test.YtdckddkalgnlpaaGreatDoorA7
import Derived.Laws.EntriesVeiled
import Derived.Maps.OwnSet
import Derived.Maps.StringElems
namespace Go.Proofs.YtdckddkalgnlpaaGreatDoor
open Go.RowKit Go.Maps Pw
section
variable {β : Type} {L : List Lex.Tok} {n tbk tc P k0 k : Nat} {b : Bool} {w W W' : World} {p0 : Nat → Pa.R β} {bs : List Bk} {os : List Im} {G G' : Nat → Pa.Toks → Pa.R β}
theorem Cr.take (s : ByteArray) (hs : s.data.toList ≠ []) {p q : Nat → Pa.Toks → Pa.R β} (h : Cr L n tbk tc P k0 w p0 k b bs os (fun f ts => Pa.opt s.data.toList (p f) (q f) ts) W) :
 Calls Tryz.prog 64 #[.pointer (some ⟨P, 0, none⟩), .string s] W fun e W' => (e = .returned (.bool true) ∧ k < n ∧ Hid (b = false) ∧ Hid (Cr L n tbk tc P k0 w p0 (k + 1) false bs os p W')) ∨ (e = .returned (.bool false) ∧ Hid (Cr L n tbk tc P k0 w p0 k b bs os q W')) := by
 cases hi : !b && Pa.is s.data.toList (Pa.rest L n k) with
 | true =>
   rw [Bool.and_eq_true] at hi
   obtain rfl : b = false := by cases b <;> simp_all
   have hlt := Pa.is_lt h.le hi.2
   exact (accept_yes h.ps h.hL s hs hi.2).mono fun _ _ ⟨a, b, c⟩ => .inl ⟨a, hlt, Lib.hid rfl, Lib.hid (h.passed hlt b c fun f => by unfold Pa.opt; rw [hi.2, if_pos rfl])⟩
 | false =>
   refine (accept_no h.ps h.hL s hs hi).mono fun _ _ ⟨a, c⟩ => .inr ⟨a, Lib.hid (Cr.keep ?_ c)⟩
   cases b with
   | true => exact ⟨h.m, h.kk, h.tw, h.hL, h.ev⟩
   | false => exact h.at0 fun f => by unfold Pa.opt; rw [show Pa.is s.data.toList (Pa.rest L n k) = false by simpa using hi, if_neg (by decide)]
def wd (L : List Lex.Tok) (k' : Nat) (b' : Bool) : Prop := b' = false → 1 ≤ k' ∧ ∀ t, L[k' - 1]? = some t → t.kind ≠ 2
theorem Cr.exp (s : ByteArray) (hs : s.data.toList ≠ []) {q : Nat → Pa.Toks → Pa.R β} (h : Cr L n tbk tc P k0 w p0 k b bs os (fun f ts => (Pa.expect s.data.toList ts).bind fun _ r => q f r) W) :
 Calls Tryz.prog 65 #[.pointer (some ⟨P, 0, none⟩), .string s] W fun e W' => ∃ k' b', e = .returned (.tuple #[]) ∧ k ≤ k' ∧ k' ≤ n ∧ Hid (wd L k' b') ∧ Hid (Cr L n tbk tc P k0 w p0 k' b' bs os q W') := by
 cases hi : !b && Pa.is s.data.toList (Pa.rest L n k) with
 | true =>
   rw [Bool.and_eq_true] at hi
   obtain rfl : b = false := by cases b <;> simp_all
   have hlt := Pa.is_lt h.le hi.2
   refine (expectR_yes h.ps h.hL s hs hi.2).mono fun _ _ ⟨a, b, c⟩ => ⟨k + 1, false, a, Nat.le_succ k, hlt, Lib.hid fun _ => ⟨Nat.le_add_left .., fun t ht e => ?_⟩, Lib.hid (h.passed hlt b c fun f => by unfold Pa.expect; rw [hi.2, if_pos rfl]; rfl)⟩
   have h2 := Pa.is_at h.hL h.le (show L[k]? = some t from ht) _ hs
   rw [hi.2, e] at h2
   simp at h2
 | false =>
   refine (expectR_no h.ps h.hL s hs hi).mono fun _ W' ⟨a, d, c⟩ => ⟨k, true, a, Nat.le_refl k, h.le, Lib.hid (fun e => by cases e), Lib.hid (h.par d c (Nat.le_refl k) fun x hx => ?_)⟩
   cases b with
   | true => exact hx
   | false =>
     have e := Pa.Ev.det (Pa.Ev.const (.bad (Pa.rest L n k))) hx
     refine e ▸ .cong (fun f => ?_) (Pa.Ev.const _)
     show (Pa.expect s.data.toList (Pa.rest L n k)).bind _ = _
     rw [Pa.expect_at h.hL h.le, show Pa.is s.data.toList (Pa.rest L n k) = false by simpa using hi]
     rfl
theorem Cr.word (K : Nat) (hK : 0 < K) {q : Nat → ByteArray → Pa.Toks → Pa.R β} (h : Cr L n tbk tc P k0 w p0 k b bs os (fun f ts => (Pa.word K ts).bind fun a r => q f a r) W) :
 Calls Tryz.prog 66 #[.pointer (some ⟨P, 0, none⟩), .int .i64 K] W fun e W' => ∃ (s : ByteArray) (z1 z2 z3 k' : Nat) (b' : Bool), e = .returned (.agg #[.int .i64 z1, .string s, .int .i64 z2, .int .i64 z3]) ∧ s.size ≤ maxLen ∧ k ≤ k' ∧ k' ≤ n ∧ Hid (Cr L n tbk tc P k0 w p0 k' b' bs os (fun f ts => q f s ts) W') := by
 obtain ⟨t, ht⟩ := h.hL.get h.le
 refine (token_any h.ps h.hL ht K hK).mono ?_
 rintro e W' (⟨rfl, hk, rfl, hg, hp⟩ | ⟨hk, rfl, hg, hp⟩)
 ·have hlt := kind_lt h.hL h.le ht (by omega)
  refine ⟨_, _, _, _, k + 1, false, rfl, tok_size h.hL ht, Nat.le_succ k, hlt, Lib.hid (h.passed hlt hg hp fun f => ?_)⟩
  rw [Pa.rest_cons hlt ht]
  show Pa.R.bind (if t.kind = K then _ else _) _ = _
  rw [if_pos hk]
  rfl
 ·refine ⟨⟨#[]⟩, 0, 0, 0, k, true, rfl, size_nil, Nat.le_refl k, h.le, Lib.hid (h.par hg hp (Nat.le_refl k) fun x hx => ?_)⟩
  cases b with
  | true => exact hx
  | false =>
    have e := Pa.Ev.det (Pa.Ev.const (.bad (Pa.rest L n k))) hx
    exact e ▸ .word_no h.hL h.le ht (hk.resolve_left (by decide))
theorem Cr.join {B1 B2 : Nat} {r1 r2 rd : World → Prop} (h : Cr L n tbk tc P k0 w p0 k b bs (im B1 r1 :: im B2 r2 :: os) G W) (hm : Mn rd) (hr : ∀ U, r1 U → r2 U → rd U) : Cr L n tbk tc P k0 w p0 k b bs (im B2 rd :: os) G W := h.mm (h.m.join hm hr)
theorem Cr.foc {α : Type} {p : Nat → Pa.Toks → Pa.R α} {g : Nat → α → Pa.Toks → Pa.R β} (h : Cr L n tbk tc P k0 w p0 k b bs os (fun f ts => (p f ts).bind fun a r => g f a r) W) : Cr L n tbk tc P k0 w (fun f => Pa.mv b p (Pa.rest L n k) f) k b bs os p W ∧ ∀ x, Pa.Ev (fun f => Pa.mv b (fun f ts => (p f ts).bind fun a r => g f a r) (Pa.rest L n k) f) x → Pa.Ev p0 x := ⟨⟨h.m, h.kk, h.tw, h.hL, fun _ hx => hx⟩, h.ev⟩
theorem Cr.unf {α : Type} {p : Nat → Pa.Toks → Pa.R α} {g : Nat → α → Pa.Toks → Pa.R β} {b1 : Bool} {k1 : Nat} {a : α} (h : Cr L n tbk tc P k0 w (fun f => Pa.mv b1 p (Pa.rest L n k1) f) k b bs os (fun _ ts => .ok a ts) W) (hF : ∀ x, Pa.Ev (fun f => Pa.mv b1 (fun f ts => (p f ts).bind fun a r => g f a r) (Pa.rest L n k1) f) x → Pa.Ev p0 x) : Cr L n tbk tc P k0 w p0 k b bs os (fun f ts => g f a ts) W := ⟨h.m, h.kk, h.tw, h.hL, fun x hx => hF x (.call (h.ev _ (.const _)) hx)⟩
theorem Cr.callR {α : Type} {F : Nat} {args : Array Value} {p : Nat → Pa.Toks → Pa.R α} {q : Nat → α → Pa.Toks → Pa.R β} {rd : World → Value → α → Prop} {X : α → Nat → Bool → Prop} (h : Cr L n tbk tc P k0 w p0 k b bs os (fun f ts => (p f ts).bind fun a r => q f a r) W) (hK : Calls Tryz.prog F args W (RX L n tbk tc P k b p rd X W)) :
 Calls Tryz.prog F args W fun e W' => ∃ a v k' b', e = .returned v ∧ rd W' v a ∧ k ≤ k' ∧ k' ≤ n ∧ Hid (X a k' b') ∧ ∀ {o : Im}, It o → o.B = W.heap.size → o.r o.B [] W' → Cr L n tbk tc P k0 w p0 k' b' bs (o :: os) (fun f ts => q f a ts) W' := by
 refine hK.mono ?_
 rintro e W' ⟨a, v, k', b', he, hg, hp, hlt, hev, hr, hX⟩
 have h1 := h.par (G' := fun f ts => q f a ts) hg hp hlt (fun x hx => .call hev hx)
 exact ⟨a, v, k', b', he, hr, hlt, hp.le, Lib.hid hX, fun hI hB hr => h1.mm (h.m.call hg h1.m.pk hp hI hB hr)⟩
theorem Cr.callE {F : Nat} {args : Array Value} {p : Nat → Pa.Toks → Pa.R Tr.E} {q : Nat → Tr.E → Pa.Toks → Pa.R β} {X : Tr.E → Nat → Bool → Prop} (h : Cr L n tbk tc P k0 w p0 k b bs os (fun f ts => (p f ts).bind fun a r => q f a r) W) (hK : Calls Tryz.prog F args W (RX L n tbk tc P k b p (hdn rdE W) X W)) :
 Calls Tryz.prog F args W fun e W' => ∃ (x : Tr.E) (pa : Option Addr) (N c k' : Nat) (b' : Bool), e = .returned (.agg #[.int .i64 x.kind, .int .i64 x.op, .int .i64 x.int, .string x.name, .bool x.at_, .slice pa N c]) ∧ k ≤ k' ∧ k' ≤ n ∧ Hid (X x k' b') ∧ Hid (Cr L n tbk tc P k0 w p0 k' b' bs (im W.heap.size (fun U => ReadET U (x, .slice pa N c)) :: os) (fun f ts => q f x ts) W') := by
 refine (h.callR hK).mono ?_
 rintro e W' ⟨x, v, k', b', he, ⟨a, rfl, hbd, hsl⟩, hlt, hkn, hX, hC⟩
 obtain ⟨pa, ca, rfl, _⟩ := hsl.form
 exact ⟨x, pa, _, ca, k', b', he, hlt, hkn, hX, Lib.hid (hC (o := im W.heap.size (fun U => ReadET U (x, .slice pa _ ca))) (im_it (mn_E _)) rfl ⟨hbd, hsl⟩)⟩
theorem Cr.callS {F : Nat} {args : Array Value} {p : Nat → Pa.Toks → Pa.R Tr.S} {q : Nat → Tr.S → Pa.Toks → Pa.R β} {X : Tr.S → Nat → Bool → Prop} (h : Cr L n tbk tc P k0 w p0 k b bs os (fun f ts => (p f ts).bind fun a r => q f a r) W) (hK : Calls Tryz.prog F args W (RX L n tbk tc P k b p (hdn rdS W) X W)) :
 Calls Tryz.prog F args W fun e W' => ∃ (s : Tr.S) (px : Option Addr) (Nx cx : Nat) (py : Option Addr) (Ny cy : Nat) (pz : Option Addr) (Nz cz k' : Nat) (b' : Bool), e = .returned (.agg #[.int .i64 s.kind, .string s.name, .slice px Nx cx, .slice py Ny cy, .slice pz Nz cz]) ∧ k ≤ k' ∧ k' ≤ n ∧ Hid (X s k' b') ∧ Hid (Cr L n tbk tc P k0 w p0 k' b' bs (im W.heap.size (fun U => ReadST U (s, .slice px Nx cx, .slice py Ny cy, .slice pz Nz cz)) :: os) (fun f ts => q f s ts) W') := by
 refine (h.callR hK).mono ?_
 rintro e W' ⟨s, v, k', b', he, ⟨x, y, z, rfl, hh⟩, hlt, hkn, hX, hC⟩
 have hbd : BdS s := hh.1
 have hx : SlE (hide (upL W.heap.size []) W') x s.exprs := hh.2.1
 have hy : SlS (hide (upL W.heap.size []) W') y s.body := hh.2.2.1
 have hz : SlS (hide (upL W.heap.size []) W') z s.els := hh.2.2.2
 clear hh
 obtain ⟨px, cx, rfl, _⟩ := hx.form
 obtain ⟨py, cy, rfl, _⟩ := hy.form
 obtain ⟨pz, cz, rfl, _⟩ := hz.form
 exact ⟨s, px, _, cx, py, _, cy, pz, _, cz, k', b', he, hlt, hkn, hX, Lib.hid (hC (o := im W.heap.size (fun U => ReadST U (s, .slice px _ cx, .slice py _ cy, .slice pz _ cz))) (im_it (mn_S _)) rfl ⟨hbd, hx, hy, hz⟩)⟩
theorem Cr.callB {F : Nat} {args : Array Value} {p : Nat → Pa.Toks → Pa.R (List Tr.S)} {q : Nat → List Tr.S → Pa.Toks → Pa.R β} {X : List Tr.S → Nat → Bool → Prop} (h : Cr L n tbk tc P k0 w p0 k b bs os (fun f ts => (p f ts).bind fun a r => q f a r) W) (hK : Calls Tryz.prog F args W (RX L n tbk tc P k b p (hdn SlS W) X W)) :
 Calls Tryz.prog F args W fun e W' => ∃ (l : List Tr.S) (p : Option Addr) (N c k' : Nat) (b' : Bool), e = .returned (.slice p N c) ∧ k ≤ k' ∧ k' ≤ n ∧ Hid (X l k' b') ∧ Hid (Cr L n tbk tc P k0 w p0 k' b' bs (im W.heap.size (fun U => SlS U (.slice p N c) l) :: os) (fun f ts => q f l ts) W') := by
 refine (h.callR hK).mono ?_
 rintro e W' ⟨l, v, k', b', he, hs, hlt, hkn, hX, hC⟩
 obtain ⟨p, c, rfl, _⟩ := SlS.form hs
 exact ⟨l, p, _, c, k', b', he, hlt, hkn, hX, Lib.hid (hC (o := im W.heap.size (fun U => SlS U (.slice p _ c) l)) (im_it (fun _ _ h hx => hx.inc h)) rfl hs)⟩
theorem Cr.callC {F : Nat} {args : Array Value} {p : Nat → Pa.Toks → Pa.R Tr.C} {q : Nat → Tr.C → Pa.Toks → Pa.R β} {X : Tr.C → Nat → Bool → Prop} (h : Cr L n tbk tc P k0 w p0 k b bs os (fun f ts => (p f ts).bind fun a r => q f a r) W) (hK : Calls Tryz.prog F args W (RX L n tbk tc P k b p (hdn rdC W) X W)) :
 Calls Tryz.prog F args W fun e W' => ∃ (c : Tr.C) (px : Option Addr) (Nx cx : Nat) (py : Option Addr) (Ny cy k' : Nat) (b' : Bool), e = .returned (.agg #[.string c.name, .bool c.actor, .slice px Nx cx, .slice py Ny cy]) ∧ k ≤ k' ∧ k' ≤ n ∧ Hid (X c k' b') ∧ Hid (Cr L n tbk tc P k0 w p0 k' b' bs (im W.heap.size (fun U => ReadC U c (.slice px Nx cx) (.slice py Ny cy)) :: os) (fun f ts => q f c ts) W') := by
 refine (h.callR hK).mono ?_
 rintro e W' ⟨c, v, k', b', he, ⟨x, y, rfl, hr⟩, hlt, hkn, hX, hC⟩
 have hx : SlStr (hide (upL W.heap.size []) W') x c.fields := hr.2.1
 have hy : SlM (hide (upL W.heap.size []) W') y c.methods := hr.2.2
 obtain ⟨px, cx, rfl⟩ := hx.form
 obtain ⟨py, cy, rfl⟩ := hy.form
 exact ⟨c, px, _, cx, py, _, cy, k', b', he, hlt, hkn, hX, Lib.hid (hC (o := im W.heap.size (fun U => ReadC U c (.slice px _ cx) (.slice py _ cy))) (im_it (fun _ _ h hx => ⟨hx.1, hx.2.1.inc h, hx.2.2.inc h⟩)) rfl hr)⟩
theorem Cr.callL {F : Nat} {args : Array Value} {p : Nat → Pa.Toks → Pa.R (List Tr.E)} {q : Nat → List Tr.E → Pa.Toks → Pa.R β} {X : List Tr.E → Nat → Bool → Prop} (h : Cr L n tbk tc P k0 w p0 k b bs os (fun f ts => (p f ts).bind fun a r => q f a r) W) (hK : Calls Tryz.prog F args W (RX L n tbk tc P k b p (rdL W.heap.size) X W)) :
 Calls Tryz.prog F args W fun e W' => ∃ (tr : List ET) (p : Option Addr) (N c k' : Nat) (b' : Bool), e = .returned (.slice p N c) ∧ Hid (tr.length ≤ 1000000) ∧ k ≤ k' ∧ k' ≤ n ∧ Hid (X (tr.map Prod.fst) k' b') ∧ Hid (Cr L n tbk tc P k0 w p0 k' b' bs (imR tkE W.heap.size (.slice p N c) tr :: os) (fun f ts => q f (tr.map Prod.fst) ts) W') := by
 refine (h.callR hK).mono ?_
 rintro e W' ⟨l, v, k', b', he, ⟨tr, rfl, hl, hr⟩, hlt, hkn, hX, hC⟩
 obtain ⟨p, c, rfl⟩ := own_form hr.own
 exact ⟨tr, p, _, c, k', b', he, Lib.hid hl, hlt, hkn, hX, Lib.hid (hC (o := imR tkE W.heap.size (.slice p _ c) tr) (imR_it tkE) rfl hr)⟩
theorem Mx.adopt {P : Nat} {w W W' : World} {Q : World → Prop} {bs : List Bk} {os : List Im} (h : Mx w P Q bs os W) (hb : Below W.heap.size W W') {X : Nat} {cs : Array Value} {t : TypeId} (hX : W.heap.size ≤ X) (hc : W'.heap[X]? = some (.cells cs t (0, 0))) : Mx w P Q ((X, cs, t) :: bs) os W' := by
 have h1 := h.below hb
 refine ⟨h1.ps, h1.pk, h1.gr, h1.pw, fun x hx => ?_, ?_, fun o ho => ?_, h.pr⟩
 ·rcases List.mem_cons.1 hx with rfl | hx
  ·exact ⟨hc, Nat.le_trans h.le hX⟩
  ·exact h1.bl x hx
 ·rw [List.map_cons, List.nodup_cons]
  refine ⟨fun hm => ?_, h.nd⟩
  have h2 := (h.lts hm).2
  simp only at h2
  omega
 ·obtain ⟨a, b, d, e⟩ := h.ro o ho
  exact ⟨a, Nat.le_trans b hb.size, d, d.keep (gr_below hb none) (fun _ e => by cases e) (d.more hX e)⟩
theorem RowOk.emp {α : Type} {f : α → List Value} {k : Nat} {t : TypeId} {ok : World → α → Prop} {B : Nat} {l : List Nat} {W : World} {G : Nat} (h : W.heap[G]? = some (.cells #[] t (0, 0))) (hB : B ≤ G) (hn : G ∉ l) : RowOk f k t ok B l W (.slice (some ⟨G, 0, none⟩) 0 0) [] :=
 ⟨⟨by simp [flatV], .inr ⟨G, 0, #[], rfl, hB, h, Nat.le_refl _, by decide, by simp, by simp [flatV]⟩⟩, (fun x hx => by cases hx), fun q hq e => hn (by injection e with e; subst e; exact hq)⟩
section
variable {α γ : Type} {f : α → List Value} {kk : Nat} {t te : TypeId} {ok : World → α → Prop} {rl : World → Value → List γ → Prop} {g : α → γ}
theorem Mx.emp {P : Nat} {w W : World} {Q : World → Prop} {bs : List Bk} (T : TK f kk t te ok rl g) {X : Nat} (h : Mx w P Q ((X, #[], t) :: bs) [] W) : Mx w P Q bs [imR T w.heap.size (.slice (some ⟨X, 0, none⟩) 0 0) []] W := by
 have h2 := h.tl
 have hX : X ∉ bs.map Prod.fst := (List.nodup_cons.1 (by have := h.nd; rw [List.map_cons] at this; exact this)).1
 refine ⟨h2.ps, h2.pk, h2.gr, h2.pw, h2.bl, h2.nd, fun o ho => ?_, List.pairwise_singleton ..⟩
 rw [List.mem_singleton.1 ho]
 exact ⟨Nat.le_refl _, h.le, imR_it T, RowOk.emp (h.b 0 rfl) (h.lt 0 rfl).1 hX⟩
theorem Cr.emp (T : TK f kk t te ok rl g) {X : Nat} (h : Cr L n tbk tc P k0 w p0 k b ((X, #[], t) :: bs) [] G W) : Cr L n tbk tc P k0 w p0 k b bs [imR T w.heap.size (.slice (some ⟨X, 0, none⟩) 0 0) []] G W := h.mm (h.m.emp T)
theorem Mx.run_app0 {P : Nat} {w W : World} {Q : World → Prop} {bs : List Bk} {os : List Im} {T : TK f kk t te ok rl g} {X : Nat} {tr : List α} {v2 : Value} {B2 : Nat} (h : Mx w P Q ((X, #[], t) :: bs) os W) (j : Nat) (hj : os[j]? = some (imR T B2 v2 tr)) (hlen : tr.length ≤ 1000000) (ty : TypeId) :
 ∃ v' W', (Builtin.append_ #[te, te] ty #[.slice (some ⟨X, 0, none⟩) 0 0, v2]).run Tryz.prog W = .ok v' W' ∧ ∃ p c, v' = .slice p tr.length c ∧ Mx w P Q bs [imR T w.heap.size v' tr] W' := by
 obtain ⟨ii, z, hi1, hz, hs, hb, hc⟩ := T.inf
 have hm : (([] : List α).length + tr.length) * ii.bytes ≤ 140737488355328 := Nat.le_trans (Nat.mul_le_mul (show 0 + tr.length ≤ 1000001 by omega) hb) (by decide)
 have h2 := h.tl
 have hG := h.lt 0 rfl
 have hX : X ∉ bs.map Prod.fst := (List.nodup_cons.1 (by have := h.nd; rw [List.map_cons] at this; exact this)).1
 have hrow := RowOk.emp (f := f) (k := kk) (ok := ok) (B := w.heap.size) (l := bs.map Prod.fst) (h.b 0 rfl) hG.1 hX
 have hr2 : RowOk f kk t ok B2 (((X, #[], t) :: bs).map Prod.fst) W v2 tr := h.o j hj
 have hnews : ∀ y ∈ tr, ok (hide (upL w.heap.size (bs.map Prod.fst ++ ownL (.slice (some ⟨X, 0, none⟩) 0 0))) W) y := fun y hy => T.mono _ _ _ (up_mono (fun q _ hq => by
  rcases hq with hq | hq
  ·exact .inl (Nat.lt_of_lt_of_le hq (h.ro _ (List.mem_of_getElem? hj)).1)
  ·refine .inr (List.mem_append.2 (.inl ?_))
   rw [List.map_cons]
   rcases List.mem_append.1 hq with hq | hq
   ·exact List.mem_cons_of_mem _ hq
   ·rw [List.mem_singleton.1 hq]
    exact List.mem_cons_self ..)) (hr2.rd y hy)
 obtain ⟨v', W', h3, h4, h5⟩ := Go.Proofs.YtdckddkalgnlpaaGreatDoor.run_push (P := Tryz.prog) T.len T.mono te ty ii z ii.bytes T.und hi1 hz hs rfl hc T.pos hrow v2 tr hr2.src hnews (fun a ha => T.one (hnews a ha)) (by show 0 + tr.length ≤ maxLen; unfold maxLen; omega) hm h.le (fun q hq => (h2.lts hq).2)
 obtain ⟨p, cp, h6⟩ := own_form h4.own
 have hg : W.grownBy W' (some X) := h5
 refine ⟨v', W', h3, p, cp, h6, h2.pk hg (fun q e => by injection e with e; omega) h2.ps, h2.pk, gr_new h2.gr hg hG.1, h2.pw, fun y hy => ⟨gr_at hg (h2.bl y hy).1 (ne_sm (fun e => hX (List.mem_map.2 ⟨y, hy, e⟩))), (h2.bl y hy).2⟩, h2.nd, fun o ho => ?_, List.pairwise_singleton ..⟩
 rw [List.mem_singleton.1 ho]
 exact ⟨Nat.le_refl _, Nat.le_trans h.le hg.size, imR_it T, h4⟩
theorem Cr.app0W (T : TK f kk t te ok rl g) {B2 : Nat} {v2 : Value} {tr : List α} {G0 : Nat} (h : Cr L n tbk tc P k0 w p0 k b ((G0, #[], t) :: bs) os G W) (j : Nat) (hj : os[j]? = some (imR T B2 v2 tr)) (hlen : tr.length ≤ 1000000)
 {ops : Array Oper} {rest : List Oper} {o : Oper} {a : Act} {Q : Exit → Act → World → Prop} (hgd : o.guard = none) (s y : Operand)
 (ho : o.op = .call { callee := .builtin .append, args := #[s, y], argTypes := #[te, te] }) (hs : a.eval s = .slice (some ⟨G0, 0, none⟩) 0 0) (hy : a.eval y = v2)
 (hk : ∀ (p : Option Addr) (N c : Nat) (W' : World), Hid (tr.length = N) → Hid (Cr L n tbk tc P k0 w p0 k b bs [imR T w.heap.size (.slice p N c) tr] G W') → wpList Tryz.prog ops Q rest (a.put o.dst (.slice p N c)) W') : wpList Tryz.prog ops Q (o :: rest) a W :=
 wpList_plain hgd fun K hK => by
  obtain ⟨v', W', hr, p, c, rfl, h2⟩ := h.m.run_app0 j hj hlen o.type
  unfold Oper.wp execOp
  simp only [ho, resolve, invoke, builtin, Sem.run_bind, Sem.run_pure, Result.andThen_ok, List.map_toArray, List.map_cons, List.map_nil, hs, hy, hr]
  exact hK _ _ (hk p _ c W' (Lib.hid rfl) (Lib.hid (h.mm h2)))
end
theorem Cr.un (h : Cr L n tbk tc P k0 w p0 k b bs os G W) (kd : Int) (x : Tr.E) (a : Value) :
 Calls Tryz.prog 73 #[.int .i64 kd, .agg #[.int .i64 x.kind, .int .i64 x.op, .int .i64 x.int, .string x.name, .bool x.at_, a]] W fun e W' => ∃ g, e = .returned (.agg #[.int .i64 kd, .int .i64 0, .int .i64 0, .string ⟨#[]⟩, .bool false, .slice (some ⟨g, 0, none⟩) 1 1]) ∧ Hid (Cr L n tbk tc P k0 w p0 k b ((g, #[.int .i64 x.kind, .int .i64 x.op, .int .i64 x.int, .string x.name, .bool x.at_, a], 33) :: bs) os G W') :=
 (unaryR_any kd x a W).mono fun _ _ ⟨g, a, b, c, d⟩ => ⟨g, a, Lib.hid (h.mm (h.m.adopt d b c))⟩
theorem Cr.bin (h : Cr L n tbk tc P k0 w p0 k b bs os G W) (op : Int) (x y : Tr.E) (a a2 : Value) :
 Calls Tryz.prog 75 #[.int .i64 op, .agg #[.int .i64 x.kind, .int .i64 x.op, .int .i64 x.int, .string x.name, .bool x.at_, a], .agg #[.int .i64 y.kind, .int .i64 y.op, .int .i64 y.int, .string y.name, .bool y.at_, a2]] W fun e W' => ∃ g, e = .returned (.agg #[.int .i64 10, .int .i64 op, .int .i64 0, .string ⟨#[]⟩, .bool false, .slice (some ⟨g, 0, none⟩) 2 2]) ∧ Hid (Cr L n tbk tc P k0 w p0 k b ((g, #[.int .i64 x.kind, .int .i64 x.op, .int .i64 x.int, .string x.name, .bool x.at_, a, .int .i64 y.kind, .int .i64 y.op, .int .i64 y.int, .string y.name, .bool y.at_, a2], 33) :: bs) os G W') :=
 (binaryR_any op x y a a2 W).mono fun _ _ ⟨g, a, b, c, d⟩ => ⟨g, a, Lib.hid (h.mm (h.m.adopt d b c))⟩
section
variable {α γ : Type} {f : α → List Value} {kk : Nat} {t te : TypeId} {ok : World → α → Prop} {rl : World → Value → List γ → Prop} {g : α → γ}
theorem Cr.pushR (T : TK f kk t te ok rl g) {B C : Nat} {v : Value} {tr : List α} {x : α} {G0 : Nat} {cs : Array Value} (h : Cr L n tbk tc P k0 w p0 k b ((G0, cs, t) :: bs) [im C (fun U => ok U x), imR T B v tr] G W) (hcs : cs.toList = f x) (hlen : tr.length ≤ 1000000) (ty : TypeId) :
 ∃ p N c W', (Builtin.append_ #[te, te] ty #[v, .slice (some ⟨G0, 0, none⟩) 1 1]).run Tryz.prog W = .ok (.slice p N c) W' ∧ tr.length + 1 = N ∧ Cr L n tbk tc P k0 w p0 k b bs [imR T B (.slice p N c) (tr ++ [x])] G W' := by
 obtain ⟨v', W', h1, p, c, rfl, h2⟩ := h.m.run_push hcs hlen ty
 exact ⟨p, _, c, W', h1, rfl, h.mm h2⟩
theorem Cr.pushW (T : TK f kk t te ok rl g) {B C : Nat} {v : Value} {tr : List α} {x : α} {G0 : Nat} {cs : Array Value} (h : Cr L n tbk tc P k0 w p0 k b ((G0, cs, t) :: bs) [im C (fun U => ok U x), imR T B v tr] G W) (hcs : cs.toList = f x) (hlen : tr.length ≤ 1000000)
 {ops : Array Oper} {rest : List Oper} {o : Oper} {a : Act} {Q : Exit → Act → World → Prop} (hgd : o.guard = none) (s y : Operand)
 (ho : o.op = .call { callee := .builtin .append, args := #[s, y], argTypes := #[te, te] }) (hs : a.eval s = v) (hy : a.eval y = .slice (some ⟨G0, 0, none⟩) 1 1)
 (hk : ∀ (p : Option Addr) (N c : Nat) (W' : World), Hid (tr.length + 1 = N) → Hid (Cr L n tbk tc P k0 w p0 k b bs [imR T B (.slice p N c) (tr ++ [x])] G W') → wpList Tryz.prog ops Q rest (a.put o.dst (.slice p N c)) W') : wpList Tryz.prog ops Q (o :: rest) a W :=
 wpList_plain hgd fun K hK => by
  obtain ⟨p, N, c, W', hr, hN, h2⟩ := h.pushR T hcs hlen o.type
  unfold Oper.wp execOp
  simp only [ho, resolve, invoke, builtin, Sem.run_bind, Sem.run_pure, Result.andThen_ok, List.map_toArray, List.map_cons, List.map_nil, hs, hy, hr]
  exact hK _ _ (hk p N c W' (Lib.hid hN) (Lib.hid h2))
theorem Cr.pushS (T : TK f kk t te ok rl g) {B C : Nat} {v : Value} {tr : List α} {x : α} {G0 : Nat} {cs : Array Value} (h : Cr L n tbk tc P k0 w p0 k b ((G0, cs, t) :: bs) [im C (fun U => ok U x), imR T B v tr] G W) (hcs : cs.toList = f x) (hlen : tr.length ≤ 1000000)
 {ops : Array Oper} {E : Prop} {o : Oper} {a : Act} {K : Act → World → Prop} {Q : Exit → Act → World → Prop} (hgd : o.guard = none) (s y : Operand)
 (ho : o.op = .call { callee := .builtin .append, args := #[s, y], argTypes := #[te, te] }) (hs : a.eval s = v) (hy : a.eval y = .slice (some ⟨G0, 0, none⟩) 1 1)
 (hk : ∀ (p : Option Addr) (N c : Nat) (W' : World), Hid (tr.length + 1 = N) → Hid (Cr L n tbk tc P k0 w p0 k b bs [imR T B (.slice p N c) (tr ++ [x])] G W') → K (a.put o.dst (.slice p N c)) W') : if Region.wanted o (yielded ops a.tmps) = true then Oper.wp Tryz.prog o a W K Q else E := by
 have hw : Region.wanted o (yielded ops a.tmps) = true := by simp [Region.wanted, hgd]
 rw [if_pos hw]
 obtain ⟨p, N, c, W', hr, hN, h2⟩ := h.pushR T hcs hlen o.type
 unfold Oper.wp execOp
 simp only [ho, resolve, invoke, builtin, Sem.run_bind, Sem.run_pure, Result.andThen_ok, List.map_toArray, List.map_cons, List.map_nil, hs, hy, hr]
 exact hk p N c W' (Lib.hid hN) (Lib.hid h2)
theorem Cr.appS (T : TK f kk t te ok rl g) {B2 C : Nat} {v2 : Value} {tr : List α} {x : α} {G0 : Nat} {cs : Array Value} (h : Cr L n tbk tc P k0 w p0 k b ((G0, cs, t) :: bs) os G W) (i : Nat) (hi : os[i]? = some (im C (fun U => ok U x))) (j : Nat) (hj : os[j]? = some (imR T B2 v2 tr)) (hcs : cs.toList = f x) (hlen : tr.length ≤ 1000000)
 {ops : Array Oper} {E : Prop} {o : Oper} {a : Act} {K : Act → World → Prop} {Q : Exit → Act → World → Prop} (hgd : o.guard = none) (s y : Operand)
 (ho : o.op = .call { callee := .builtin .append, args := #[s, y], argTypes := #[te, te] }) (hs : a.eval s = .slice (some ⟨G0, 0, none⟩) 1 1) (hy : a.eval y = v2)
 (hk : ∀ (p : Option Addr) (N c : Nat) (W' : World), Hid (Cr L n tbk tc P k0 w p0 k b bs [imR T w.heap.size (.slice p N c) (x :: tr)] G W') → K (a.put o.dst (.slice p N c)) W') : if Region.wanted o (yielded ops a.tmps) = true then Oper.wp Tryz.prog o a W K Q else E := by
 have hw : Region.wanted o (yielded ops a.tmps) = true := by simp [Region.wanted, hgd]
 rw [if_pos hw]
 obtain ⟨v', W', hr, p, c, rfl, h2⟩ := h.m.run_app i hi j hj hcs hlen o.type
 unfold Oper.wp execOp
 simp only [ho, resolve, invoke, builtin, Sem.run_bind, Sem.run_pure, Result.andThen_ok, List.map_toArray, List.map_cons, List.map_nil, hs, hy, hr]
 exact hk p _ c W' (Lib.hid (h.mm h2))
end
theorem Cr.fin {α : Type} {b0 : Bool} {p : Nat → Pa.Toks → Pa.R α} {rd : World → Value → α → Prop} {X : α → Nat → Bool → Prop} {a : α} {v : Value} (h : Cr L n tbk tc P k0 w (fun f => Pa.mv b0 p (Pa.rest L n k0) f) k b bs os (fun _ ts => .ok a ts) W) (hX : X a k b) (hr : rd W v a) : RX L n tbk tc P k0 b0 p rd X w (.returned v) W := ⟨a, v, k, b, rfl, h.m.gr, h.ps, h.kk, h.ev _ (.const _), hr, hX⟩
theorem Cr.addN (h : Cr L n tbk tc P k0 w p0 k b bs os G W) {s : ByteArray} (hs : s.size ≤ maxLen) : Cr L n tbk tc P k0 w p0 k b bs (im W.heap.size (fun U => ReadNm U s) :: os) G W := h.mm (h.m.add (im_it (fun _ _ _ hx => hx)) rfl hs)
section
variable {α γ : Type} {f : α → List Value} {kk : Nat} {t te : TypeId} {ok : World → α → Prop} {rl : World → Value → List γ → Prop} {g : α → γ}
theorem Cr.nilR (T : TK f kk t te ok rl g) (h : Cr L n tbk tc P k0 w p0 k b bs os G W) : Cr L n tbk tc P k0 w p0 k b bs (imR T W.heap.size (.slice none 0 0) [] :: os) G W := h.mm (h.m.nil T)
end
section
variable {α : Type} {p : Nat → Pa.Toks → Pa.R α} {rd : World → Value → α → Prop} {X : α → Nat → Bool → Prop} {x : α} {y vals : Array Value} {ty : TypeId}
theorem Cr.ret {b0 : Bool} (h : Cr L n tbk tc P k0 w (fun f => Pa.mv b0 p (Pa.rest L n k0) f) k b bs os (fun _ ts => .ok x ts) W) (i : Nat) (hi : bs[i]? = some (w.heap.size, y, ty)) (hX : X x k b) {fn : Func} {A : Act} (hd : A.defers = [])
 (hrow : ∀ W' : World, W'.heap[w.heap.size]? = some (.cells vals ty (0, 0)) → (results fn A.tmps).run Tryz.prog W' = .ok (.agg vals) W')
 (hg : W.grownBy W' (some w.heap.size)) (hS : W'.heap[w.heap.size]? = some (.cells vals ty (0, 0)))
 (hx : ∀ U : World, (∀ (j : Nat) {X : Nat} {cs : Array Value} {t : TypeId}, j ≠ i → bs[j]? = some (X, cs, t) → U.heap[X]? = some (.cells cs t (0, 0))) → (∀ (j : Nat) {o : Im}, os[j]? = some o → o.fr U) → rd U (.agg vals) x) :
 bodyPost Tryz.prog fn (RX L n tbk tc P k0 b0 p (hdn rd w) X w) .ret A W' := by
 have h2 := h.mm (h.m.set i hi hg hS)
 refine bodyPost_ret (v := .agg vals) (hrow _ hS) hd ⟨x, _, k, b, rfl, h2.m.gr, h2.ps, h2.kk, h2.ev _ (.const _), hx _ (fun j _ _ _ hj hb => h2.m.vb j ?_) (fun j _ ho => h2.m.vo j ho), hX⟩
 rw [List.getElem?_set_ne (Ne.symm hj)]
 exact hb
theorem Cr.retb {b0 : Bool} {ys : Array Value} {ty2 : TypeId} (h : Cr L n tbk tc P k0 w (fun f => Pa.mv b0 p (Pa.rest L n k0) f) k b bs os (fun _ ts => .ok x ts) W) (i : Nat) (hi : bs[i]? = some (w.heap.size, y, ty)) (hX : X x k b) {fn : Func} {A : Act} (hd : A.defers = [])
 (hrow : ∀ W' : World, W'.heap[w.heap.size]? = some (.cells vals ty (0, 0)) → (results fn A.tmps).run Tryz.prog W' = .ok (.agg vals) W')
 (hg : W.grownBy W' (some w.heap.size)) (hS : W'.heap[w.heap.size]? = some (.cells vals ty (0, 0))) (hz : W.heap.size = W'.heap.size)
 (hx : ∀ U : World, U.heap[W.heap.size]? = some (.cells ys ty2 (0, 0)) → (∀ (j : Nat) {X : Nat} {cs : Array Value} {t : TypeId}, j ≠ i → bs[j]? = some (X, cs, t) → U.heap[X]? = some (.cells cs t (0, 0))) → (∀ (j : Nat) {o : Im}, os[j]? = some o → o.fr U) → rd U (.agg vals) x) :
 bodyPost Tryz.prog fn (RX L n tbk tc P k0 b0 p (hdn rd w) X w) .ret A (W'.alloc (.cells ys ty2)) := by
 have h2 := h.mm (h.m.set i hi hg hS)
 have h3 := h2.mm (h2.m.box (X := W.heap.size) hz ys ty2)
 refine bodyPost_ret (v := .agg vals) (hrow _ (gr_at (gr_below (below_box _ _) none) hS (fun e => by cases e))) hd ⟨x, _, k, b, rfl, h3.m.gr, h3.ps, h3.kk, h3.ev _ (.const _), hx _ (h3.m.vb 0 rfl) (fun j _ _ _ hj hb => h3.m.vb (j + 1) ?_) (fun j _ ho => h3.m.vo j ho), hX⟩
 rw [List.getElem?_cons_succ, List.getElem?_set_ne (Ne.symm hj)]
 exact hb
end
theorem Cr.retE {b0 : Bool} {X : Tr.E → Nat → Bool → Prop} {p : Nat → Pa.Toks → Pa.R Tr.E} {x : Tr.E} {a : Value} {y0 y1 y2 y3 y4 y5 : Value} (h : Cr L n tbk tc P k0 w (fun f => Pa.mv b0 p (Pa.rest L n k0) f) k b bs os (fun _ ts => .ok x ts) W) (i : Nat) (hi : bs[i]? = some (w.heap.size, #[y0, y1, y2, y3, y4, y5], 33)) (hX : X x k b) {fn : Func} {q : Tmp} {A : Act} (hr : fn.results = #[.cell q 33]) (hq : A.tmps.getD q undef = .pointer (some ⟨w.heap.size, 0, none⟩)) (hd : A.defers = [])
 (hx : ∀ U : World, (∀ (j : Nat) {X : Nat} {cs : Array Value} {t : TypeId}, j ≠ i → bs[j]? = some (X, cs, t) → U.heap[X]? = some (.cells cs t (0, 0))) → (∀ (j : Nat) {o : Im}, os[j]? = some o → o.fr U) → ReadET U (x, a)) :
 bodyPost Tryz.prog fn (RX L n tbk tc P k0 b0 p (hdn rdE w) X w) .ret A (set6 W w.heap.size (.int .i64 x.kind) (.int .i64 x.op) (.int .i64 x.int) (.string x.name) (.bool x.at_) (a)) :=
 h.ret i hi hX hd (fun _ hS => results_cell_row hr _ _ w.heap.size _ _ _ _ hq hS Tryz.underlying33 rfl (by kernel_rfl)) (set6_gr _ _ _ _ _ _ _ _) (set6_blk (.int .i64 x.kind) (.int .i64 x.op) (.int .i64 x.int) (.string x.name) (.bool x.at_) (a) (h.m.b i hi)) (fun U bb oo => ⟨a, rfl, hx U bb oo⟩)
theorem Cr.retS {b0 : Bool} {X : Tr.S → Nat → Bool → Prop} {p : Nat → Pa.Toks → Pa.R Tr.S} {x : Tr.S} {sa sb sc : Value} {y0 y1 y2 y3 y4 : Value} (h : Cr L n tbk tc P k0 w (fun f => Pa.mv b0 p (Pa.rest L n k0) f) k b bs os (fun _ ts => .ok x ts) W) (i : Nat) (hi : bs[i]? = some (w.heap.size, #[y0, y1, y2, y3, y4], 94)) (hX : X x k b) {fn : Func} {q : Tmp} {A : Act} (hr : fn.results = #[.cell q 94]) (hq : A.tmps.getD q undef = .pointer (some ⟨w.heap.size, 0, none⟩)) (hd : A.defers = [])
 (hx : ∀ U : World, (∀ (j : Nat) {X : Nat} {cs : Array Value} {t : TypeId}, j ≠ i → bs[j]? = some (X, cs, t) → U.heap[X]? = some (.cells cs t (0, 0))) → (∀ (j : Nat) {o : Im}, os[j]? = some o → o.fr U) → ReadST U (x, sa, sb, sc)) :
 bodyPost Tryz.prog fn (RX L n tbk tc P k0 b0 p (hdn rdS w) X w) .ret A (set5 W w.heap.size (.int .i64 x.kind) (.string x.name) (sa) (sb) (sc)) :=
 h.ret i hi hX hd (fun _ hS => results_cell_row hr _ _ w.heap.size _ _ _ _ hq hS Tryz.underlying94 rfl (by kernel_rfl)) (set5_gr _ _ _ _ _ _ _) (set5_blk (.int .i64 x.kind) (.string x.name) (sa) (sb) (sc) (h.m.b i hi)) (fun U bb oo => ⟨sa, sb, sc, rfl, hx U bb oo⟩)
theorem Cr.retSb {b0 : Bool} {X : Tr.S → Nat → Bool → Prop} {p : Nat → Pa.Toks → Pa.R Tr.S} {x : Tr.S} {sa sb sc : Value} {y0 y1 y2 y3 y4 : Value} {ys : Array Value} {ty2 : TypeId} (h : Cr L n tbk tc P k0 w (fun f => Pa.mv b0 p (Pa.rest L n k0) f) k b bs os (fun _ ts => .ok x ts) W) (i : Nat) (hi : bs[i]? = some (w.heap.size, #[y0, y1, y2, y3, y4], 94)) (hX : X x k b) {fn : Func} {q : Tmp} {A : Act} (hr : fn.results = #[.cell q 94]) (hq : A.tmps.getD q undef = .pointer (some ⟨w.heap.size, 0, none⟩)) (hd : A.defers = [])
 (hx : ∀ U : World, U.heap[W.heap.size]? = some (.cells ys ty2 (0, 0)) → (∀ (j : Nat) {X : Nat} {cs : Array Value} {t : TypeId}, j ≠ i → bs[j]? = some (X, cs, t) → U.heap[X]? = some (.cells cs t (0, 0))) → (∀ (j : Nat) {o : Im}, os[j]? = some o → o.fr U) → ReadST U (x, sa, sb, sc)) :
 bodyPost Tryz.prog fn (RX L n tbk tc P k0 b0 p (hdn rdS w) X w) .ret A ((set5 W w.heap.size (.int .i64 x.kind) (.string x.name) (sa) (sb) (sc)).alloc (.cells ys ty2)) :=
 h.retb i hi hX hd (fun _ hS => results_cell_row hr _ _ w.heap.size _ _ _ _ hq hS Tryz.underlying94 rfl (by kernel_rfl)) (set5_gr _ _ _ _ _ _ _) (set5_blk (.int .i64 x.kind) (.string x.name) (sa) (sb) (sc) (h.m.b i hi)) (by simp [set5]) (fun U gg bb oo => ⟨sa, sb, sc, rfl, hx U gg bb oo⟩)
theorem Cr.retC {b0 : Bool} {X : Tr.C → Nat → Bool → Prop} {p : Nat → Pa.Toks → Pa.R Tr.C} {x : Tr.C} {sa sb : Value} {y0 y1 y2 y3 : Value} (h : Cr L n tbk tc P k0 w (fun f => Pa.mv b0 p (Pa.rest L n k0) f) k b bs os (fun _ ts => .ok x ts) W) (i : Nat) (hi : bs[i]? = some (w.heap.size, #[y0, y1, y2, y3], 49)) (hX : X x k b) {fn : Func} {q : Tmp} {A : Act} (hr : fn.results = #[.cell q 49]) (hq : A.tmps.getD q undef = .pointer (some ⟨w.heap.size, 0, none⟩)) (hd : A.defers = [])
 (hx : ∀ U : World, (∀ (j : Nat) {X : Nat} {cs : Array Value} {t : TypeId}, j ≠ i → bs[j]? = some (X, cs, t) → U.heap[X]? = some (.cells cs t (0, 0))) → (∀ (j : Nat) {o : Im}, os[j]? = some o → o.fr U) → ReadC U x sa sb) :
 bodyPost Tryz.prog fn (RX L n tbk tc P k0 b0 p (hdn rdC w) X w) .ret A (set4 W w.heap.size (.string x.name) (.bool x.actor) (sa) (sb)) :=
 h.ret i hi hX hd (fun _ hS => results_cell_row hr _ _ w.heap.size _ _ _ _ hq hS Tryz.underlying49 rfl (by kernel_rfl)) (set4_gr _ _ _ _ _ _) (set4_blk (.string x.name) (.bool x.actor) (sa) (sb) (h.m.b i hi)) (fun U bb oo => ⟨sa, sb, rfl, hx U bb oo⟩)
end
end Go.Proofs.YtdckddkalgnlpaaGreatDoor
namespace Go.Proofs.YtdckddkalgnlpaaGreatDoor
open Go.RowKit
def ReadE (W : World) (x : Tr.E) (a : Value) : Prop := BdE x ∧ SlE W a x.args
theorem ReadE.keep {w w' : World} {x : Tr.E} {a : Value} (h : ReadE w x a) (hb : Below w.heap.size w w') : ReadE w' x a := ⟨h.1, h.2.keep hb⟩
end Go.Proofs.YtdckddkalgnlpaaGreatDoor
namespace Go.Proofs.YtdckddkalgnlpaaGreatDoor
open Go.RowKit
def ReadS (W : World) (x : Tr.S) (a1 a2 a3 : Value) : Prop := BdS x ∧ SlE W a1 x.exprs ∧ SlS W a2 x.body ∧ SlS W a3 x.els
theorem ReadS.keep {w w' : World} {x : Tr.S} {a1 a2 a3 : Value} (h : ReadS w x a1 a2 a3) (hb : Below w.heap.size w w') : ReadS w' x a1 a2 a3 := ⟨h.1, h.2.1.keep hb, h.2.2.1.keep hb, h.2.2.2.keep hb⟩
end Go.Proofs.YtdckddkalgnlpaaGreatDoor
namespace Go.Proofs.YtdckddkalgnlpaaGreatDoor
open Go.RowKit
def formCells : List Value := [.int .i64 1, .int .i64 1, .bool true, .bool false, .bool false, .int .i64 1, .int .i64 1, .bool true, .bool false, .bool false, .int .i64 2, .int .i64 2, .bool true, .bool false, .bool false, .int .i64 1, .int .i64 1, .bool false, .bool true, .bool true, .int .i64 1, .int .i64 1, .bool false, .bool true, .bool false, .int .i64 1, .int .i64 4611686018427387904, .bool true, .bool false, .bool false, .int .i64 1, .int .i64 1, .bool false, .bool false, .bool false, .int .i64 2, .int .i64 2, .bool false, .bool false, .bool false, .int .i64 2, .int .i64 2, .bool true, .bool false, .bool false, .int .i64 0, .int .i64 0, .bool false, .bool false, .bool false]
structure SynEnv (w : World) : Prop where
 lex : LexEnv w
 forms : ∀ (j : Nat) (u : Value), formCells[j]? = some u → w.cell? ⟨0, j, none⟩ = some u
theorem SynEnv.keep {w w' : World} (h : SynEnv w) (hb : Below w.heap.size w w') : SynEnv w' := ⟨h.lex.keep hb, fun j u hu => cell_keep' hb (h.forms j u hu)⟩
end Go.Proofs.YtdckddkalgnlpaaGreatDoor
namespace Go.Proofs.YtdckddkalgnlpaaGreatDoor
open Go.RowKit
def ReadN (_W : World) (x : ByteArray) : Prop := x.size ≤ maxLen
theorem ReadN.keep {w w' : World} {x : ByteArray} (h : ReadN w x ) (_hb : Below w.heap.size w w') : ReadN w' x  := h
end Go.Proofs.YtdckddkalgnlpaaGreatDoor
namespace Go.Proofs.YtdckddkalgnlpaaGreatDoor
open Go.RowKit
def ReadM (W : World) (x : Tr.M) (a1 a2 : Value) : Prop := x.name.size ≤ maxLen ∧ SlStr W a1 x.params ∧ SlS W a2 x.body
theorem ReadM.keep {w w' : World} {x : Tr.M} {a1 a2 : Value} (h : ReadM w x a1 a2) (hb : Below w.heap.size w w') : ReadM w' x a1 a2 := ⟨h.1, h.2.1.keep hb, h.2.2.keep hb⟩
end Go.Proofs.YtdckddkalgnlpaaGreatDoor
namespace Go.Proofs.YtdckddkalgnlpaaGreatDoor
open Go.RowKit
def ReadC (W : World) (x : Tr.C) (a1 a2 : Value) : Prop := x.name.size ≤ maxLen ∧ SlStr W a1 x.fields ∧ SlM W a2 x.methods
theorem ReadC.keep {w w' : World} {x : Tr.C} {a1 a2 : Value} (h : ReadC w x a1 a2) (hb : Below w.heap.size w w') : ReadC w' x a1 a2 := ⟨h.1, h.2.1.keep hb, h.2.2.keep hb⟩
end Go.Proofs.YtdckddkalgnlpaaGreatDoor
namespace Go.Proofs.YtdckddkalgnlpaaGreatDoor
open Go.RowKit
structure SyEnv (w : World) : Prop where
 syn : SynEnv w
 pr : PrEnv w
theorem PrEnv.keep {w w' : World} (h : PrEnv w) (hb : Below w.heap.size w w') : PrEnv w' := ⟨fun o ho => ⟨cell_keep' hb (h.ops o ho).1, cell_keep' hb (h.ops o ho).2⟩, tab_keep h.tab hb⟩
theorem SyEnv.keep {w w' : World} (h : SyEnv w) (hb : Below w.heap.size w w') : SyEnv w' := ⟨h.syn.keep hb, h.pr.keep hb⟩
end Go.Proofs.YtdckddkalgnlpaaGreatDoor
namespace Go.Proofs.YtdckddkalgnlpaaGreatDoor
open Go.RowKit Go.Maps
theorem SlStr.get {w : World} {p : Option Addr} {n c : Nat} {l : List ByteArray} (h : SlStr w (.slice p n c) l) {j : Nat} {s : ByteArray} (hj : l[j]? = some s) :
 ∃ b o, p = some ⟨b, o, none⟩ ∧ b < w.heap.size ∧ w.cell? ⟨b, o + j, none⟩ = some (.string s) := by
 obtain ⟨p', c', e, _, _, hx⟩ := h
 cases e
 obtain ⟨_, b, o, h2, h3, h4⟩ := hx j s hj
 exact ⟨b, o, h2, h3, h4⟩
theorem CellsM.keep {w w' : World} {b o : Nat} {m : Tr.M} {x y : Value} (h : CellsM w b o m x y) (hb : Below w.heap.size w w') : CellsM w' b o m x y :=
 ⟨cell_keep' hb h.1, cell_keep' hb h.2.1, cell_keep' hb h.2.2⟩
end Go.Proofs.YtdckddkalgnlpaaGreatDoor
