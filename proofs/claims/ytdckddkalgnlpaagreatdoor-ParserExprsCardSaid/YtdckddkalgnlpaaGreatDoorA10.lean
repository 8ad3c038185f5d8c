/-
  Several texts in one: PbRow, PbMx.
-/
import Derived.Test.YtdckddkalgnlpaaGreatDoorA9
import Derived.Laws.AppendOwnNone
namespace Go.Proofs.YtdckddkalgnlpaaGreatDoor
open Go.RowKit Go.Maps Pw
theorem bd_fld {nm : ByteArray} (h : nm.size ≤ maxLen) (x : Tr.E) : BdE (Pa.fld nm x) := ⟨i64_small (n := 4) (by decide) (by decide), i64_small (n := 0) (by decide) (by decide), i64_small (n := 0) (by decide) (by decide), h⟩
theorem word_at {K : Nat} {L : List Lex.Tok} {n k : Nat} {t : Lex.Tok} (hk : k < n) (ht : L[k]? = some t) (h : t.kind = K) : Pa.word K (Pa.rest L n k) = .ok ⟨t.text.toArray⟩ (Pa.rest L n (k + 1)) := by
 rw [Pa.rest_cons hk ht]
 show (if (Pa.tb t).kind = K then _ else _) = _
 rw [if_pos (show (Pa.tb t).kind = K from h)]
 rfl
theorem word_other {K : Nat} {L : List Lex.Tok} {n k : Nat} {t : Lex.Tok} (hL : Pa.TkL L n) (hk : k ≤ n) (ht : L[k]? = some t) (h : t.kind ≠ K) : Pa.word K (Pa.rest L n k) = .bad (Pa.rest L n k) := by
 rcases Nat.lt_or_ge k n with hlt | hge
 ·rw [Pa.rest_cons hlt ht]
  show (if (Pa.tb t).kind = K then _ else _) = _
  rw [if_neg (show ¬ (Pa.tb t).kind = K from h)]
 ·obtain rfl : k = n := by omega
  rw [Pa.rest_end]
  rfl
theorem tok_size {L : List Lex.Tok} {n k : Nat} {t : Lex.Tok} (hL : Pa.TkL L n) (ht : L[k]? = some t) : (⟨t.text.toArray⟩ : ByteArray).size ≤ maxLen := by
 have h := (hL.pos t (List.mem_of_getElem? ht)).2.2.2
 have e : (⟨t.text.toArray⟩ : ByteArray).size = t.text.length := by rw [Lib.size_eq]
 rw [e]
 unfold maxLen
 omega
theorem kind_lt {L : List Lex.Tok} {n k : Nat} {t : Lex.Tok} (hL : Pa.TkL L n) (hk : k ≤ n) (ht : L[k]? = some t) (h : t.kind ≠ 0) : k < n := by
 rcases Nat.lt_or_ge k n with hlt | hge
 ·exact hlt
 ·obtain rfl : k = n := by omega
  obtain ⟨p, hp⟩ := hL.last
  rw [hp] at ht
  cases ht
  exact absurd rfl h
theorem kindI {a : Nat} (K : Nat) (h : a = K) : ((a : Int) == (K : Int)) = true := by rw [kind_beq, h, beq_self_eq_true]
theorem kindN {a : Nat} (K : Nat) (h : a ≠ K) : ((a : Int) == (K : Int)) = false := by rw [kind_beq, beq_eq_false_iff_ne.2 h]
theorem bd_un {k : Int} (h0 : 0 ≤ k) (h1 : k ≤ 10) (x : Tr.E) : BdE (Pa.un k x) := ⟨i64_small (n := k) (by omega) (by omega), i64_small (n := 0) (by decide) (by decide), i64_small (n := 0) (by decide) (by decide), size_nil⟩
theorem bd_num {v : Nat} (h : v ≤ 9223372036854775807) : BdE (Pa.num v) := ⟨i64_small (n := 0) (by decide) (by decide), i64_small (n := 0) (by decide) (by decide), ⟨by show (-9223372036854775808 : Int) ≤ (v : Int); omega, by show (v : Int) ≤ 9223372036854775807; omega⟩, size_nil⟩
theorem bd_var {s : ByteArray} (h : s.size ≤ maxLen) : BdE (Pa.var s) := ⟨i64_small (n := 3) (by decide) (by decide), i64_small (n := 0) (by decide) (by decide), i64_small (n := 0) (by decide) (by decide), h⟩
theorem bd_leaf {k : Int} (h0 : 0 ≤ k) (h1 : k ≤ 10) : BdE (Pa.leaf k) := ⟨i64_small (n := k) (by omega) (by omega), i64_small (n := 0) (by decide) (by decide), i64_small (n := 0) (by decide) (by decide), size_nil⟩
theorem bd_new {s : ByteArray} (h : s.size ≤ maxLen) (b : Bool) (l : List Tr.E) : BdE (Pa.new s b l) := ⟨i64_small (n := 5) (by decide) (by decide), i64_small (n := 0) (by decide) (by decide), i64_small (n := 0) (by decide) (by decide), h⟩
def Mono {α : Type} (ok : World → α → Prop) : Prop := ∀ (U U' : World) (x : α), Inc U U' → ok U x → ok U' x
def ownL (v : Value) : List Nat := v.ownBlock.toList
theorem ownL_mem {v : Value} {k : Nat} : k ∈ ownL v ↔ v.ownBlock = some k := by
 unfold ownL
 cases v.ownBlock with
 | none => simp
 | some q => simp [eq_comm]
structure RowOk {α : Type} (f : α → List Value) (k : Nat) (t : TypeId) (ok : World → α → Prop) (B : Nat) (l : List Nat) (W : World) (v : Value) (tr : List α) : Prop where
 own : W.ownsRow B t k v tr.length (flatV f tr)
 rd : ∀ x ∈ tr, ok (hide (upL B (l ++ ownL v)) W) x
 nin : ∀ q ∈ l, v.ownBlock ≠ some q
section
variable {α : Type} {f : α → List Value} {k : Nat} {t : TypeId} {ok : World → α → Prop} {B : Nat} {l : List Nat} {W W' : World} {v : Value} {tr : List α}
theorem RowOk.nil : RowOk f k t ok B l W (.slice none 0 0) [] := ⟨⟨by simp [flatV], .inl ⟨rfl, rfl⟩⟩, (fun x hx => by cases hx), (fun _ _ h => by cases h)⟩
theorem RowOk.ge (h : RowOk f k t ok B l W v tr) {q : Nat} (hq : v.ownBlock = some q) : B ≤ q ∧ q < W.heap.size := by
 obtain ⟨h1, cur, h2⟩ := own_ge h.own hq
 exact ⟨h1, lt_of_block h2⟩
theorem RowOk.keep (hmono : Mono ok) (h : RowOk f k t ok B l W v tr) {row : Option Nat} (hg : W.grownBy W' row) (h1 : ∀ q, row = some q → q < B ∨ q ∈ l) (h2 : ∀ q, row = some q → v.ownBlock ≠ some q) : RowOk f k t ok B l W' v tr := by
 refine ⟨?_, fun x hx => hmono _ _ _ (up_step hg (fun q hq => ?_) (fun q _ hq => hq)) (h.rd x hx), h.nin⟩
 ·refine ⟨h.own.1, ?_⟩
  rcases h.own.2 with hn | ⟨g, cap, cur, rfl, hb, hg', rest⟩
  ·exact .inl hn
  ·exact .inr ⟨g, cap, cur, rfl, hb, gr_at hg hg' (fun e => h2 g e.symm rfl), rest⟩
 ·rcases h1 q hq with h3 | h3
  ·exact .inl h3
  ·exact .inr (List.mem_append.2 (.inl h3))
theorem RowOk.below (hmono : Mono ok) (h : RowOk f k t ok B l W v tr) (hb : Below W.heap.size W W') : RowOk f k t ok B l W' v tr :=
 h.keep hmono (gr_below hb none) (fun _ e => by cases e) (fun _ e => by cases e)
theorem new_reads (hmono : Mono ok) {w1 : World} {C : Nat} {l0 : List Nat} {x : α} (h : ∀ q, v.ownBlock = some q → q < C) (hx : ok (hide (upL C l0) w1) x) (hB : B ≤ C) (hl : ∀ q ∈ l, q < C ∨ q ∈ l0) : ok (hide (upL B (l ++ ownL v)) w1) x :=
 hmono _ _ _ (up_mono (fun q _ hm => by
  rcases hm with hm | hm
  ·exact .inl (by omega)
  ·rcases List.mem_append.1 hm with hm | hm
   ·exact hl q hm
   ·exact .inl (h q (ownL_mem.1 hm)))) hx
end
theorem run_append_fresh {P : Program} (w : World) (base : Nat) (t ty e : TypeId) (i : TypeInfo) (z : Value) (size bytes : Nat) (ht : P.underlying t = some (.slice e)) (hi : P.info? e = some i) (hz : i.zero = some z)
 (hsize : i.size = size) (hby : i.bytes = bytes)
 (v : Value) (n : Nat) (xs : List Value) (hown : w.ownsRow base e size v n xs)
 (a : Addr) (m c : Nat) (news : List Value) (hl : news.length = m * size) (hm : 0 < m) (hnews : ∀ j u, news[j]? = some u → w.cell? (a.add j) = some u) (h1 : ∀ u ∈ news, u.oneCell' = true)
 (h63 : n + m ≤ maxLen) (hbytes : (n + m) * bytes ≤ 140737488355328) (v' : Value) (w' : World) (hr : (Builtin.append_ #[t, t] ty #[v, .slice (some a) m c]).run P w = .ok v' w') :
 v'.ownBlock = v.ownBlock ∨ v'.ownBlock = some w.heap.size := by
 subst hsize
 subst hby
 have hsmall : n + m ≤ 9223372036854775807 := by simp only [maxLen] at h63; omega
 rcases hown.2 with ⟨rfl, rfl⟩ | ⟨g, cap, cur, rfl, hbg, hg, hnc, hcm, hcs, htake⟩
 ·have h2 := run_append_nil (P := P) w t ty e i z ht hi hz a m c news hl hnews hm (by omega) (by have hb := hbytes; simp only [Nat.zero_add] at hb; omega)
  rw [hr] at h2
  injection h2 with h3
  subst h3
  exact .inr rfl
 ·by_cases hroom : n + m ≤ cap
  ·have hfit : n * i.size + news.length ≤ cur.size := by rw [hl, hcs, ← Nat.add_mul]; exact Nat.mul_le_mul_right _ hroom
   have h2 := run_append_room (P := P) w t ty e i ht hi g n cap cur hg a m c news hl hnews h1 hroom hfit
   rw [hr] at h2
   injection h2 with h3
   subst h3
   exact .inl rfl
  ·have holds : ∀ j u, xs[j]? = some u → w.cell? ((⟨g, 0, none⟩ : Addr).add j) = some u := hown.cells (g := g) rfl
   have h2 := run_append_grow (P := P) w t ty e i z ht hi hz ⟨g, 0, none⟩ n cap xs hown.1 holds a m c news hl hnews (by omega) (by omega) (growslice_fits (by omega) hbytes)
   rw [hr] at h2
   injection h2 with h3
   subst h3
   exact .inr rfl
section
variable {α : Type} {f : α → List Value} {k : Nat} {e : TypeId} {ok : World → α → Prop} {B : Nat} {l : List Nat} {w : World} {v : Value} {tr : List α}
theorem run_push {P : Program} (hf : ∀ a, (f a).length = k) (hmono : Mono ok) (t ty : TypeId) (i : TypeInfo) (z : Value) (bytes : Nat) (ht : P.underlying t = some (.slice e)) (hi : P.info? e = some i) (hz : i.zero = some z)
 (hsize : i.size = k) (hby : i.bytes = bytes) (hzs : z.cells.size = k) (hsz : 0 < k) (hrow : RowOk f k e ok B l w v tr) (v2 : Value) (news : List α) (hsrc : SrcAt w f v2 news) (hnews : ∀ x ∈ news, ok (hide (upL B (l ++ ownL v)) w) x) (h1 : ∀ a ∈ news, ∀ u ∈ f a, u.oneCell' = true)
 (h63 : tr.length + news.length ≤ maxLen) (hbytes : (tr.length + news.length) * bytes ≤ 140737488355328) (hbase : B ≤ w.heap.size) (hlw : ∀ q ∈ l, q < w.heap.size) :
 ∃ v' w', (Builtin.append_ #[t, t] ty #[v, v2]).run P w = .ok v' w' ∧ RowOk f k e ok B l w' v' (tr ++ news) ∧ w.grownBy w' v.ownBlock := by
 by_cases hn : news = []
 ·subst hn
  have hv2 : ∃ p c, v2 = .slice p 0 c := by
   rcases hsrc with ⟨_, p, c, h⟩ | ⟨b, o, c, h, _⟩
   ·exact ⟨p, c, h⟩
   ·exact ⟨_, _, h⟩
  obtain ⟨p, c, rfl⟩ := hv2
  refine ⟨v, w, run_append_owned_empty B t ty e i k ht hi v _ _ hrow.own p c, ?_, gr_refl w _⟩
  rw [List.append_nil]
  exact hrow
 ·have hx : ∃ b o c, v2 = .slice (some ⟨b, o, none⟩) news.length c ∧ ∀ j u, (flatV f news)[j]? = some u → w.cell? ⟨b, o + j, none⟩ = some u := by
   rcases hsrc with ⟨h, _⟩ | h
   ·exact absurd h hn
   ·exact h
  obtain ⟨b, o, c, rfl, hcell⟩ := hx
  have hpos : 0 < news.length := List.length_pos_iff.2 hn
  have hone : ∀ u ∈ flatV f news, u.oneCell' = true := by
   intro u hu
   obtain ⟨a, ha, hu⟩ := List.mem_flatMap.1 hu
   exact h1 a ha u hu
  have hcell2 : ∀ j u, (flatV f news)[j]? = some u → w.cell? ((⟨b, o, none⟩ : Addr).add j) = some u := fun j u hj => by
   have e : (⟨b, o, none⟩ : Addr).add j = ⟨b, o + j, none⟩ := by unfold Addr.add; split <;> simp_all
   rw [e]
   exact hcell j u hj
  have hlen : (flatV f news).length = news.length * k := flatV_len f k hf news
  obtain ⟨v', w', hr, h2, h3, h4⟩ := run_append_own (P := P) w B t ty e i z k bytes ht hi hz hsize hby hzs hsz v tr.length (flatV f tr) hrow.own ⟨b, o, none⟩ news.length c (flatV f news) hlen hcell2 hone h63 hbytes hbase
  have h5 := run_append_fresh w B t ty e i z k bytes ht hi hz hsize hby v tr.length (flatV f tr) hrow.own ⟨b, o, none⟩ news.length c (flatV f news) hlen hpos hcell2 hone h63 hbytes v' w' hr
  refine ⟨v', w', hr, ⟨?_, fun x hx => ?_, fun q hq he => ?_⟩, h3⟩
  ·rw [List.length_append, flatV_append]
   exact h2
  ·have hall : ok (hide (upL B (l ++ ownL v)) w) x := by
    rcases List.mem_append.1 hx with h | h
    ·exact hrow.rd x h
    ·exact hnews x h
   refine hmono _ _ _ (up_step h3 (fun q hq => .inr (List.mem_append.2 (.inr (ownL_mem.2 hq)))) (fun q hlt hq => ?_)) hall
   rcases hq with hq | hq
   ·exact .inl hq
   ·rcases List.mem_append.1 hq with hq | hq
    ·exact .inr (List.mem_append.2 (.inl hq))
    ·have hv := ownL_mem.1 hq
     rcases h5 with h5 | h5
     ·exact .inr (List.mem_append.2 (.inr (ownL_mem.2 (h5 ▸ hv))))
     ·rw [h5] at hv
      injection hv with hv
      omega
  ·rcases h5 with h5 | h5
   ·exact hrow.nin q hq (h5 ▸ he)
   ·rw [h5] at he
    injection he with he
    have := hlw q hq
    omega
end
theorem readET_mono : Mono (ReadET) := fun _ _ _ h hx => ⟨hx.1, hx.2.inc h⟩
theorem readST_mono : Mono (ReadST) := fun _ _ _ h hx => ⟨hx.1, hx.2.1.inc h, hx.2.2.1.inc h, hx.2.2.2.inc h⟩
theorem readM_mono : Mono (fun U (x : MT) => ReadM U x.1 x.2.1 x.2.2) := fun _ _ _ h hx => ⟨hx.1, hx.2.1.inc h, hx.2.2.inc h⟩
theorem readC_mono : Mono (fun U (x : CT) => ReadC U x.1 x.2.1 x.2.2) := fun _ _ _ h hx => ⟨hx.1, hx.2.1.inc h, hx.2.2.inc h⟩
def ReadNm (_ : World) (x : ByteArray) : Prop := x.size ≤ maxLen
theorem readN_mono : Mono ReadNm := fun _ _ _ _ hx => hx
theorem RowOk.hid {α : Type} {f : α → List Value} {k : Nat} {t : TypeId} {ok : World → α → Prop} {B : Nat} {l l' : List Nat} {W : World} {v : Value} {tr : List α} (hmono : Mono ok) (h : RowOk f k t ok B l W v tr) (hl : ∀ q ∈ l', q ∈ l) (hv : ∀ q ∈ l', v.ownBlock ≠ some q) :
 (hide (upL B l') W).ownsRow B t k v tr.length (flatV f tr) ∧ ∀ x ∈ tr, ok (hide (upL B l') W) x := by
 refine ⟨hide_own h.own (fun q hq => upL_ge (h.ge hq).1 (fun hm => hv q hm hq)), fun x hx => hmono _ _ _ (up_mono (fun q _ hq => ?_)) (h.rd x hx)⟩
 rcases hq with hq | hq
 ·exact .inl hq
 ·exact .inr (List.mem_append.2 (.inl (hl q hq)))
theorem RowOk.lit {α : Type} {f : α → List Value} {k : Nat} {t : TypeId} {ok : World → α → Prop} {B : Nat} {l : List Nat} {W : World} {G : Nat} {cs : Array Value} {x : α} (h : W.heap[G]? = some (.cells cs t (0, 0))) (hcs : cs.toList = f x) (hf : (f x).length = k) (hB : B ≤ G) (hn : G ∉ l) (hr : ok (hide (upL B (l ++ [G])) W) x) : RowOk f k t ok B l W (.slice (some ⟨G, 0, none⟩) 1 1) [x] := by
 have hsz : cs.size = k := by rw [← hf, ← hcs, Array.length_toList]
 refine ⟨⟨by simp [flatV, hf], .inr ⟨G, 1, cs, rfl, hB, h, Nat.le_refl _, by decide, by rw [hsz, Nat.one_mul], ?_⟩⟩, fun y hy => ?_, fun q hq e => ?_⟩
 ·rw [List.length_singleton, Nat.one_mul, ← hsz, ← Array.length_toList, List.take_length, hcs]
  simp [flatV]
 ·rw [List.mem_singleton.1 hy]
  exact hr
 ·injection e with e
  exact hn ((show G = q from e) ▸ hq)
theorem RowOk.src {α : Type} {f : α → List Value} {k : Nat} {t : TypeId} {ok : World → α → Prop} {B : Nat} {l : List Nat} {W : World} {v : Value} {tr : List α} (h : RowOk f k t ok B l W v tr) : SrcAt W f v tr := by
 rcases h.own.2 with ⟨rfl, hn⟩ | ⟨g, cap, cur, rfl, hb, hg, hnc, hcm, hcs, ht⟩
 ·exact .inl ⟨List.eq_nil_of_length_eq_zero hn, none, 0, rfl⟩
 ·refine .inr ⟨g, 0, cap, rfl, fun j u hj => ?_⟩
  have := h.own.cells (g := g) rfl j u hj
  have e : (⟨g, 0, none⟩ : Addr).add j = ⟨g, 0 + j, none⟩ := by unfold Addr.add; split <;> simp_all
  rw [e] at this
  exact this
theorem RowOk.slStr {B : Nat} {l l' : List Nat} {W : World} {v : Value} {tr : List ByteArray} (h : RowOk nCells 1 9 ReadNm B l W v tr) (hl : ∀ q ∈ l', q ∈ l) (hv : ∀ q ∈ l', v.ownBlock ≠ some q) : SlStr (hide (upL B l') W) v tr := by
 obtain ⟨h1, h2⟩ := h.hid readN_mono hl hv
 exact slStr_own h1 h2
theorem SrcAt.of_blk {α : Type} {f : α → List Value} {w : World} {G : Nat} {x : α} {t : TypeId} {cs : Array Value} (h : w.heap[G]? = some (.cells cs t (0, 0))) (hcs : cs.toList = f x) {c : Nat} : SrcAt w f (.slice (some ⟨G, 0, none⟩) 1 c) [x] := by
 refine .inr ⟨G, 0, c, rfl, fun j u hj => ?_⟩
 rw [flatV_cons, flatV_nil, List.append_nil, ← hcs, Array.getElem?_toList] at hj
 rw [Nat.zero_add]
 exact cell_of_blkP h hj
namespace Pa
section
variable {α β : Type} {L : List Lex.Tok} {n k : Nat} {s : Bytes} {x : R β}
theorem Ev.exp_yes {q : Nat → Unit → Toks → R β} (hL : TkL L n) (hk : k ≤ n) (h : is s (rest L n k) = true) (hb : Ev (fun f => q f () (rest L n (k + 1))) x) : Ev (fun f => (expect s (rest L n k)).bind (q f)) x := by
 obtain ⟨F, hb⟩ := hb
 refine ⟨F, fun f hf => ?_⟩
 show (expect s (rest L n k)).bind (q f) = x
 rw [expect_at hL hk, h, if_pos rfl]
 exact hb f hf
theorem Ev.exp_no {q : Nat → Unit → Toks → R β} (hL : TkL L n) (hk : k ≤ n) (h : is s (rest L n k) = false) : Ev (fun f => (expect s (rest L n k)).bind (q f)) (.bad (rest L n k)) := by
 refine ⟨0, fun f _ => ?_⟩
 show (expect s (rest L n k)).bind (q f) = _
 rw [expect_at hL hk, h, if_neg (by decide)]
 rfl
theorem Ev.word_yes {K : Nat} {t : Lex.Tok} {q : Nat → ByteArray → Toks → R β} (hlt : k < n) (ht : L[k]? = some t) (h : t.kind = K) (hb : Ev (fun f => q f ⟨t.text.toArray⟩ (rest L n (k + 1))) x) : Ev (fun f => (word K (rest L n k)).bind (q f)) x := by
 obtain ⟨F, hb⟩ := hb
 refine ⟨F, fun f hf => ?_⟩
 show (word K (rest L n k)).bind (q f) = x
 rw [word_at hlt ht h]
 exact hb f hf
theorem Ev.word_no {K : Nat} {t : Lex.Tok} {q : Nat → ByteArray → Toks → R β} (hL : TkL L n) (hk : k ≤ n) (ht : L[k]? = some t) (h : t.kind ≠ K) : Ev (fun f => (word K (rest L n k)).bind (q f)) (.bad (rest L n k)) := by
 refine ⟨0, fun f _ => ?_⟩
 show (word K (rest L n k)).bind (q f) = _
 rw [word_other hL hk ht h]
 rfl
end
end Pa
theorem gr_row {a b c : World} {r r2 : Option Nat} (h : a.grownBy b r) (hc : b.grownBy c r2) (hq : ∀ q, r2 = some q → a.heap.size ≤ q) : a.grownBy c r :=
 ⟨hc.os.trans h.os, hc.tape.trans h.tape, hc.output.trans h.output, Nat.le_trans h.size hc.size, fun i hi hn => (hc.block i (Nat.lt_of_lt_of_le hi h.size) (fun e => by have := hq i e.symm; omega)).trans (h.block i hi hn)⟩
section
variable {α β γ : Type} {f : α → List Value} {kk : Nat} {t : TypeId} {ok : World → α → Prop} {B : Nat} {l : List Nat} {W : World} {v : Value} {tr : List α}
theorem RowOk.ne (h : RowOk f kk t ok B l W v tr) {q : Nat} (hq : q < B) : some q ≠ v.ownBlock := fun e => by
 have := (h.ge e.symm).1
 omega
end
end Go.Proofs.YtdckddkalgnlpaaGreatDoor
namespace Go.Proofs.YtdckddkalgnlpaaGreatDoor
open Go.RowKit Go.Maps Pw
theorem ne_sm {a b : Nat} (h : a ≠ b) : some a ≠ some b := fun e => h (by injection e)
theorem cells3 {W : World} {b : Nat} {t : TypeId} {v0 v1 v2 : Value} (h : W.heap[b]? = some (.cells #[v0, v1, v2] t (0, 0))) : b < W.heap.size ∧ W.cell? ⟨b, 0, none⟩ = some v0 ∧ W.frozen? ⟨b, 0, none⟩ = false ∧ W.cell? ⟨b, 1, none⟩ = some v1 ∧ W.frozen? ⟨b, 1, none⟩ = false ∧ W.cell? ⟨b, 2, none⟩ = some v2 ∧ W.frozen? ⟨b, 2, none⟩ = false := ⟨lt_of_block h, cell_of_blkP h (j := 0) rfl, blk_free h 0, cell_of_blkP h (j := 1) rfl, blk_free h 1, cell_of_blkP h (j := 2) rfl, blk_free h 2⟩
theorem cells4 {W : World} {b : Nat} {t : TypeId} {v0 v1 v2 v3 : Value} (h : W.heap[b]? = some (.cells #[v0, v1, v2, v3] t (0, 0))) : b < W.heap.size ∧ W.cell? ⟨b, 0, none⟩ = some v0 ∧ W.frozen? ⟨b, 0, none⟩ = false ∧ W.cell? ⟨b, 1, none⟩ = some v1 ∧ W.frozen? ⟨b, 1, none⟩ = false ∧ W.cell? ⟨b, 2, none⟩ = some v2 ∧ W.frozen? ⟨b, 2, none⟩ = false ∧ W.cell? ⟨b, 3, none⟩ = some v3 ∧ W.frozen? ⟨b, 3, none⟩ = false := ⟨lt_of_block h, cell_of_blkP h (j := 0) rfl, blk_free h 0, cell_of_blkP h (j := 1) rfl, blk_free h 1, cell_of_blkP h (j := 2) rfl, blk_free h 2, cell_of_blkP h (j := 3) rfl, blk_free h 3⟩
theorem cells5 {W : World} {b : Nat} {t : TypeId} {v0 v1 v2 v3 v4 : Value} (h : W.heap[b]? = some (.cells #[v0, v1, v2, v3, v4] t (0, 0))) : b < W.heap.size ∧ W.cell? ⟨b, 0, none⟩ = some v0 ∧ W.frozen? ⟨b, 0, none⟩ = false ∧ W.cell? ⟨b, 1, none⟩ = some v1 ∧ W.frozen? ⟨b, 1, none⟩ = false ∧ W.cell? ⟨b, 2, none⟩ = some v2 ∧ W.frozen? ⟨b, 2, none⟩ = false ∧ W.cell? ⟨b, 3, none⟩ = some v3 ∧ W.frozen? ⟨b, 3, none⟩ = false ∧ W.cell? ⟨b, 4, none⟩ = some v4 ∧ W.frozen? ⟨b, 4, none⟩ = false := ⟨lt_of_block h, cell_of_blkP h (j := 0) rfl, blk_free h 0, cell_of_blkP h (j := 1) rfl, blk_free h 1, cell_of_blkP h (j := 2) rfl, blk_free h 2, cell_of_blkP h (j := 3) rfl, blk_free h 3, cell_of_blkP h (j := 4) rfl, blk_free h 4⟩
theorem cells6 {W : World} {b : Nat} {t : TypeId} {v0 v1 v2 v3 v4 v5 : Value} (h : W.heap[b]? = some (.cells #[v0, v1, v2, v3, v4, v5] t (0, 0))) : b < W.heap.size ∧ W.cell? ⟨b, 0, none⟩ = some v0 ∧ W.frozen? ⟨b, 0, none⟩ = false ∧ W.cell? ⟨b, 1, none⟩ = some v1 ∧ W.frozen? ⟨b, 1, none⟩ = false ∧ W.cell? ⟨b, 2, none⟩ = some v2 ∧ W.frozen? ⟨b, 2, none⟩ = false ∧ W.cell? ⟨b, 3, none⟩ = some v3 ∧ W.frozen? ⟨b, 3, none⟩ = false ∧ W.cell? ⟨b, 4, none⟩ = some v4 ∧ W.frozen? ⟨b, 4, none⟩ = false ∧ W.cell? ⟨b, 5, none⟩ = some v5 ∧ W.frozen? ⟨b, 5, none⟩ = false := ⟨lt_of_block h, cell_of_blkP h (j := 0) rfl, blk_free h 0, cell_of_blkP h (j := 1) rfl, blk_free h 1, cell_of_blkP h (j := 2) rfl, blk_free h 2, cell_of_blkP h (j := 3) rfl, blk_free h 3, cell_of_blkP h (j := 4) rfl, blk_free h 4, cell_of_blkP h (j := 5) rfl, blk_free h 5⟩
def Mn (r : World → Prop) : Prop := ∀ U U' : World, Inc U U' → r U → r U'
structure Im where
 B : Nat
 ob : Option Nat
 r : Nat → List Nat → World → Prop
 fr : World → Prop
structure It (o : Im) : Prop where
 keep : ∀ {B l U U' row}, U.grownBy U' row → (∀ q, row = some q → q < B ∨ q ∈ l) → o.r B l U → o.r B l U'
 more : ∀ {B l U X}, U.heap.size ≤ X → o.r B l U → o.r B (X :: l) U
 wk : ∀ {B l l' U}, o.r B l U → (∀ q ∈ l', q < B ∨ q ∈ l) → o.r B l' U
 own : ∀ {B l U q}, o.r B l U → o.ob = some q → B ≤ q ∧ q < U.heap.size ∧ q ∉ l
 fin : ∀ {B l U B' l'}, o.r B l U → (∀ q, q < B' ∨ q ∈ l' → q < B ∨ q ∈ l) → o.fr (hide (upL B' l') U)
def im (B : Nat) (rd : World → Prop) : Im := ⟨B, none, fun B l U => rd (hide (upL B l) U), rd⟩
theorem im_it {B : Nat} {rd : World → Prop} (h : Mn rd) : It (im B rd) where
 keep := fun hg h1 hr => h _ _ (up_step hg h1 (fun _ _ e => e)) hr
 more := fun {B l U X} hX hr => h _ _ (up_mono (fun q hq hm => by
  rcases hm with hm | hm
  ·exact .inl hm
  ·rcases List.mem_cons.1 hm with hm | hm
   ·omega
   ·exact .inr hm)) hr
 wk := fun hr hw => h _ _ (up_mono (fun q _ hm => by
  rcases hm with hm | hm
  ·exact .inl hm
  ·exact hw q hm)) hr
 own := fun _ e => by cases e
 fin := fun hr hB => h _ _ (up_mono (fun q _ hm => hB q hm)) hr
structure TK {α β : Type} (f : α → List Value) (k : Nat) (e te : TypeId) (ok : World → α → Prop) (rl : World → Value → List β → Prop) (g : α → β) : Prop where
 len : ∀ a, (f a).length = k
 mono : Mono ok
 sl : ∀ {B : Nat} {W : World} {v : Value} {tr : List α}, W.ownsRow B e k v tr.length (flatV f tr) → (∀ x ∈ tr, ok W x) → rl W v (tr.map g)
 one : ∀ {W : World} {x : α}, ok W x → ∀ u ∈ f x, u.oneCell' = true
 und : Tryz.prog.underlying te = some (.slice e)
 inf : ∃ (i : TypeInfo) (z : Value), Tryz.prog.info? e = some i ∧ i.zero = some z ∧ i.size = k ∧ i.bytes ≤ 1000 ∧ z.cells.size = k
 pos : 0 < k
 rmono : ∀ v l, Mn (fun U => rl U v l)
theorem RowOk.more {α : Type} {f : α → List Value} {k : Nat} {t : TypeId} {ok : World → α → Prop} {B : Nat} {l : List Nat} {W : World} {v : Value} {tr : List α} (hmono : Mono ok) (h : RowOk f k t ok B l W v tr) {X : Nat} (h2 : W.heap.size ≤ X) : RowOk f k t ok B (X :: l) W v tr :=
 ⟨h.own, fun x hx => hmono _ _ _ (up_mono (fun q hq hm => by
  rcases hm with hm | hm
  ·exact .inl hm
  ·rcases List.mem_cons.1 hm with hm | hm
   ·omega
   ·exact .inr hm)) (h.rd x hx), fun q hq e => by
  rcases List.mem_cons.1 hq with rfl | hq
  ·have h3 := (h.ge e).2; omega
  ·exact h.nin q hq e⟩
theorem RowOk.wk {α : Type} {f : α → List Value} {k : Nat} {t : TypeId} {ok : World → α → Prop} {B : Nat} {l l' : List Nat} {W : World} {v : Value} {tr : List α} (hmono : Mono ok) (h : RowOk f k t ok B l W v tr) (hw : ∀ q ∈ l', q < B ∨ q ∈ l) : RowOk f k t ok B l' W v tr :=
 ⟨h.own, fun x hx => hmono _ _ _ (up_mono (fun q _ hm => by
  rcases hm with hm | hm
  ·exact .inl hm
  ·rcases List.mem_append.1 hm with hm | hm
   ·rcases hw q hm with h2 | h2
    ·exact .inl h2
    ·exact .inr (List.mem_append.2 (.inl h2))
   ·exact .inr (List.mem_append.2 (.inr hm)))) (h.rd x hx), fun q hq e => by
  rcases hw q hq with h2 | h2
  ·have := (h.ge e).1; omega
  ·exact h.nin q h2 e⟩
theorem RowOk.sl {α β : Type} {f : α → List Value} {k : Nat} {t te : TypeId} {ok : World → α → Prop} {rl : World → Value → List β → Prop} {g : α → β} (T : TK f k t te ok rl g) {B B' : Nat} {l l' : List Nat} {W : World} {v : Value} {tr : List α} (h : RowOk f k t ok B l W v tr) (hB : ∀ q, q < B' ∨ q ∈ l' → q < B ∨ q ∈ l) : rl (hide (upL B' l') W) v (tr.map g) := by
 refine T.sl (B := B) (hide_own h.own (fun q hq => ?_)) (fun x hx => T.mono _ _ _ (up_mono (fun q _ hm => ?_)) (h.rd x hx))
 ·cases hu : upL B' l' q with
  | false => rfl
  | true =>
    exfalso
    rcases hB q (upL_true.1 hu) with h2 | h2
    ·have := (h.ge hq).1; omega
    ·exact h.nin q h2 hq
 ·rcases hB q hm with h2 | h2
  ·exact .inl h2
  ·exact .inr (List.mem_append.2 (.inl h2))
def imR {α β : Type} {f : α → List Value} {k : Nat} {t te : TypeId} {ok : World → α → Prop} {rl : World → Value → List β → Prop} {g : α → β} (_ : TK f k t te ok rl g) (B : Nat) (v : Value) (tr : List α) : Im := ⟨B, v.ownBlock, fun B l U => RowOk f k t ok B l U v tr, fun U => rl U v (tr.map g)⟩
theorem imR_it {α β : Type} {f : α → List Value} {k : Nat} {t te : TypeId} {ok : World → α → Prop} {rl : World → Value → List β → Prop} {g : α → β} (T : TK f k t te ok rl g) {B : Nat} {v : Value} {tr : List α} : It (imR T B v tr) where
 keep := fun hg h1 hr => RowOk.keep T.mono hr hg h1 (fun q hq e => by
  rcases h1 q hq with h2 | h2
  ·have := (RowOk.ge hr e).1; omega
  ·exact RowOk.nin hr q h2 e)
 more := fun hX hr => RowOk.more T.mono hr hX
 wk := fun hr hw => RowOk.wk T.mono hr hw
 own := fun hr e => ⟨(RowOk.ge hr e).1, (RowOk.ge hr e).2, fun hm => RowOk.nin hr _ hm e⟩
 fin := fun hr hB => RowOk.sl T hr hB
abbrev Bk := Nat × Array Value × TypeId
structure Mx (w : World) (P : Nat) (Q : World → Prop) (bs : List Bk) (os : List Im) (W : World) : Prop where
 ps : Q W
 pk : ∀ {U U' : World} {row : Option Nat}, U.grownBy U' row → (∀ q, row = some q → w.heap.size ≤ q) → Q U → Q U'
 gr : w.grownBy W (some P)
 pw : P < w.heap.size
 bl : ∀ x ∈ bs, W.heap[x.1]? = some (.cells x.2.1 x.2.2 (0, 0)) ∧ w.heap.size ≤ x.1
 nd : (bs.map Prod.fst).Nodup
 ro : ∀ o ∈ os, w.heap.size ≤ o.B ∧ o.B ≤ W.heap.size ∧ It o ∧ o.r o.B (bs.map Prod.fst) W
 pr : os.Pairwise fun a b => b.B ≤ a.B ∧ ∀ q, b.ob = some q → q < a.B
section
variable {P : Nat} {w W W' : World} {Q Q' : World → Prop} {bs : List Bk} {os : List Im}
theorem Mx.b (h : Mx w P Q bs os W) (i : Nat) {X : Nat} {cs : Array Value} {t : TypeId} (hi : bs[i]? = some (X, cs, t)) : W.heap[X]? = some (.cells cs t (0, 0)) := (h.bl _ (List.mem_of_getElem? hi)).1
theorem Mx.lt (h : Mx w P Q bs os W) (i : Nat) {X : Nat} {cs : Array Value} {t : TypeId} (hi : bs[i]? = some (X, cs, t)) : w.heap.size ≤ X ∧ X < W.heap.size := ⟨(h.bl _ (List.mem_of_getElem? hi)).2, lt_of_block (h.b i hi)⟩
theorem Mx.lts (h : Mx w P Q bs os W) {q : Nat} (hq : q ∈ bs.map Prod.fst) : w.heap.size ≤ q ∧ q < W.heap.size := by
 obtain ⟨x, hx, rfl⟩ := List.mem_map.1 hq
 exact ⟨(h.bl x hx).2, lt_of_block (h.bl x hx).1⟩
theorem Mx.o (h : Mx w P Q bs os W) (i : Nat) {o : Im} (hi : os[i]? = some o) : o.r o.B (bs.map Prod.fst) W := (h.ro _ (List.mem_of_getElem? hi)).2.2.2
theorem Mx.le (h : Mx w P Q bs os W) : w.heap.size ≤ W.heap.size := h.gr.size
theorem Mx.same (h : Mx w P Q bs os W) (hg : W.grownBy W' none) : Mx w P Q bs os W' where
 ps := h.pk hg (fun _ e => by cases e) h.ps
 pk := h.pk
 gr := gr_none h.gr hg
 pw := h.pw
 bl := fun x hx => ⟨gr_at hg (h.bl x hx).1 (fun e => by cases e), (h.bl x hx).2⟩
 nd := h.nd
 ro := fun o ho => by
  obtain ⟨a, b, d, e⟩ := h.ro o ho
  exact ⟨a, Nat.le_trans b hg.size, d, d.keep hg (fun _ e => by cases e) e⟩
 pr := h.pr
theorem Mx.below (h : Mx w P Q bs os W) (hb : Below W.heap.size W W') : Mx w P Q bs os W' := h.same (gr_below hb none)
theorem Mx.par (h : Mx w P Q bs os W) (hg : W.grownBy W' (some P)) (hk : ∀ {U U' : World} {row : Option Nat}, U.grownBy U' row → (∀ q, row = some q → w.heap.size ≤ q) → Q' U → Q' U') (hp : Q' W') : Mx w P Q' bs os W' where
 ps := hp
 pk := hk
 gr := gr_trans h.gr hg
 pw := h.pw
 bl := fun x hx => ⟨gr_at hg (h.bl x hx).1 (ne_sm (by have := (h.bl x hx).2; have := h.pw; omega)), (h.bl x hx).2⟩
 nd := h.nd
 ro := fun o ho => by
  obtain ⟨a, b, d, e⟩ := h.ro o ho
  exact ⟨a, Nat.le_trans b hg.size, d, d.keep hg (fun q e => .inl (by injection e with e; have := h.pw; omega)) e⟩
 pr := h.pr
theorem Mx.box (h : Mx w P Q bs os W) {X : Nat} (hX : X = W.heap.size) (cs : Array Value) (t : TypeId) : Mx w P Q ((X, cs, t) :: bs) os (W.alloc (.cells cs t)) := by
 have hb := below_box W (.cells cs t)
 have h1 := h.below hb
 refine ⟨h1.ps, h1.pk, h1.gr, h1.pw, fun x hx => ?_, ?_, fun o ho => ?_, h.pr⟩
 ·rcases List.mem_cons.1 hx with rfl | hx
  ·exact ⟨new_at hX.symm, by rw [hX]; exact h.gr.size⟩
  ·exact h1.bl x hx
 ·rw [List.map_cons, List.nodup_cons]
  refine ⟨fun hm => ?_, h.nd⟩
  have h2 := (h.lts hm).2
  have h3 : X = W.heap.size := hX
  simp only at h2
  omega
 ·obtain ⟨a, b, d, e⟩ := h.ro o ho
  exact ⟨a, Nat.le_trans b hb.size, d, d.keep (gr_below hb none) (fun _ e => by cases e) (d.more (by omega) e)⟩
theorem Mx.set (h : Mx w P Q bs os W) (i : Nat) {X : Nat} {cs cs' : Array Value} {t : TypeId} (hi : bs[i]? = some (X, cs, t)) (hg : W.grownBy W' (some X)) (hn : W'.heap[X]? = some (.cells cs' t (0, 0))) : Mx w P Q (bs.set i (X, cs', t)) os W' := by
 have hl := h.lt i hi
 have hP := h.pw
 have hil : i < bs.length := (List.getElem?_eq_some_iff.1 hi).1
 have hXm : X ∈ bs.map Prod.fst := List.mem_map.2 ⟨_, List.mem_of_getElem? hi, rfl⟩
 have hf : (bs.set i (X, cs', t)).map Prod.fst = bs.map Prod.fst := by
  rw [List.map_set]
  refine List.ext_getElem? fun j => ?_
  rw [List.getElem?_set]
  by_cases hij : i = j
  ·subst hij
   rw [if_pos rfl, if_pos (by rw [List.length_map]; exact hil), List.getElem?_map, hi]
   rfl
  ·rw [if_neg hij]
 refine ⟨h.pk hg (fun q e => by injection e with e; omega) h.ps, h.pk, gr_new h.gr hg hl.1, h.pw, fun x hx => ?_, by rw [hf]; exact h.nd, fun o ho => ?_, h.pr⟩
 ·obtain ⟨j, hj⟩ := List.mem_iff_getElem?.1 hx
  rw [List.getElem?_set] at hj
  by_cases hij : i = j
  ·rw [if_pos hij] at hj
   split at hj
   ·cases hj
    exact ⟨hn, hl.1⟩
   ·exact absurd hil ‹_›
  ·rw [if_neg hij] at hj
   have hxb := h.bl x (List.mem_of_getElem? hj)
   refine ⟨gr_at hg hxb.1 (ne_sm (fun e => ?_)), hxb.2⟩
   have hi1 : (bs.map Prod.fst)[i]? = some X := by rw [List.getElem?_map, hi]; rfl
   have hj1 : (bs.map Prod.fst)[j]? = some X := by rw [List.getElem?_map, hj]; exact congrArg some e
   have hil2 : i < (bs.map Prod.fst).length := by rw [List.length_map]; exact hil
   exact hij ((List.getElem?_inj hil2 h.nd).1 (hi1.trans hj1.symm))
 ·obtain ⟨a, b, d, e⟩ := h.ro o ho
  rw [hf]
  exact ⟨a, Nat.le_trans b hg.size, d, d.keep hg (fun q e => by injection e with e; exact .inr (e ▸ hXm)) e⟩
theorem Mx.call (h : Mx w P Q bs os W) (hg : W.grownBy W' (some P)) (hk : ∀ {U U' : World} {row : Option Nat}, U.grownBy U' row → (∀ q, row = some q → w.heap.size ≤ q) → Q' U → Q' U') (hp : Q' W') {o : Im} (hI : It o) (hB : o.B = W.heap.size) (hr : o.r o.B [] W') : Mx w P Q' bs (o :: os) W' := by
 have h1 := h.par hg hk hp
 refine ⟨h1.ps, h1.pk, h1.gr, h1.pw, h1.bl, h1.nd, fun p hp => ?_, List.pairwise_cons.2 ⟨fun p hp => ?_, h1.pr⟩⟩
 ·rcases List.mem_cons.1 hp with rfl | hp
  ·exact ⟨by rw [hB]; exact h.le, by rw [hB]; exact hg.size, hI, hI.wk hr (fun q hq => .inl (by rw [hB]; exact (h.lts hq).2))⟩
  ·exact h1.ro p hp
 ·obtain ⟨a, b, d, e⟩ := h.ro p hp
  exact ⟨by rw [hB]; exact b, fun q hq => by rw [hB]; exact (d.own e hq).2.1⟩
theorem Mx.add (h : Mx w P Q bs os W) {o : Im} (hI : It o) (hB : o.B = W.heap.size) (hr : o.r o.B [] W) : Mx w P Q bs (o :: os) W := h.call (gr_refl _ _) h.pk h.ps hI hB hr
theorem Mx.sub {bs' : List Bk} (h : Mx w P Q bs os W) (hs : bs'.Sublist bs) : Mx w P Q bs' os W :=
 ⟨h.ps, h.pk, h.gr, h.pw, fun x hx => h.bl x (hs.subset hx), h.nd.sublist (hs.map _), fun o ho => by
  obtain ⟨a, b, d, e⟩ := h.ro o ho
  exact ⟨a, b, d, d.wk e (fun q hq => .inr ((hs.map Prod.fst).subset hq))⟩, h.pr⟩
theorem Mx.tl {x : Bk} (h : Mx w P Q (x :: bs) os W) : Mx w P Q bs os W := h.sub (List.sublist_cons_self ..)
theorem Mx.ot {o : Im} (h : Mx w P Q bs (o :: os) W) : Mx w P Q bs os W :=
 ⟨h.ps, h.pk, h.gr, h.pw, h.bl, h.nd, fun p hp => h.ro p (List.mem_cons_of_mem _ hp), (List.pairwise_cons.1 h.pr).2⟩
theorem Mx.vb (h : Mx w P Q bs os W) (i : Nat) {X : Nat} {cs : Array Value} {t : TypeId} (hi : bs[i]? = some (X, cs, t)) : (hide (upL w.heap.size []) W).heap[X]? = some (.cells cs t (0, 0)) :=
 (hide_heap (upL_ge (h.lt i hi).1 (by intro h; cases h))).trans (h.b i hi)
theorem Mx.vo (h : Mx w P Q bs os W) (i : Nat) {o : Im} (hi : os[i]? = some o) : o.fr (hide (upL w.heap.size []) W) := by
 obtain ⟨a, _, d, e⟩ := h.ro o (List.mem_of_getElem? hi)
 exact d.fin e (fun q hq => by
  rcases hq with hq | hq
  ·exact .inl (by omega)
  ·cases hq)
theorem Mx.fold {X : Nat} {cs : Array Value} {t : TypeId} (h : Mx w P Q ((X, cs, t) :: bs) os W) {rd : World → Prop} (hm : Mn rd) (hr : ∀ U : World, U.heap[X]? = some (.cells cs t (0, 0)) → (∀ (j : Nat) {o : Im}, os[j]? = some o → o.fr U) → rd U) : Mx w P Q bs [im w.heap.size rd] W := by
 have h2 := h.tl
 have hX : X ∉ bs.map Prod.fst := (List.nodup_cons.1 (by have := h.nd; rw [List.map_cons] at this; exact this)).1
 refine ⟨h2.ps, h2.pk, h2.gr, h2.pw, h2.bl, h2.nd, fun o ho => ?_, List.pairwise_singleton ..⟩
 rw [List.mem_singleton.1 ho]
 refine ⟨Nat.le_refl _, h.le, im_it hm, hr _ ((hide_heap (upL_ge (h.lt 0 rfl).1 hX)).trans (h.b 0 rfl)) (fun j o ho => ?_)⟩
 obtain ⟨a, _, d, e⟩ := h2.ro o (List.mem_of_getElem? ho)
 exact d.fin e (fun q hq => by
  rcases hq with hq | hq
  ·exact .inl (Nat.lt_of_lt_of_le hq a)
  ·exact .inr hq)
theorem Mx.join {B1 B2 : Nat} {r1 r2 rd : World → Prop} (h : Mx w P Q bs (im B1 r1 :: im B2 r2 :: os) W) (hm : Mn rd) (hr : ∀ U, r1 U → r2 U → rd U) : Mx w P Q bs (im B2 rd :: os) W := by
 obtain ⟨a1, b1, d1, e1⟩ := h.ro _ (List.mem_cons_self ..)
 obtain ⟨a2, b2, d2, e2⟩ := h.ro _ (List.mem_cons_of_mem _ (List.mem_cons_self ..))
 have hp := List.pairwise_cons.1 h.pr
 have hB : B2 ≤ B1 := (hp.1 _ (List.mem_cons_self ..)).1
 have h1 : r1 (hide (upL B2 (bs.map Prod.fst)) W) := d1.fin e1 (fun q hq => by
  rcases hq with hq | hq
  ·exact .inl (Nat.lt_of_lt_of_le hq hB)
  ·exact .inr hq)
 refine ⟨h.ps, h.pk, h.gr, h.pw, h.bl, h.nd, fun o ho => ?_, List.pairwise_cons.2 ⟨(List.pairwise_cons.1 hp.2).1, (List.pairwise_cons.1 hp.2).2⟩⟩
 rcases List.mem_cons.1 ho with rfl | ho
 ·exact ⟨a2, b2, im_it hm, hr _ h1 e2⟩
 ·exact h.ro o (List.mem_cons_of_mem _ (List.mem_cons_of_mem _ ho))
theorem Mx.nil {α β : Type} {f : α → List Value} {k : Nat} {t te : TypeId} {ok : World → α → Prop} {rl : World → Value → List β → Prop} {g : α → β} (T : TK f k t te ok rl g) (h : Mx w P Q bs os W) : Mx w P Q bs (imR T W.heap.size (.slice none 0 0) [] :: os) W := h.add (imR_it T) rfl .nil
end
section
variable {α β : Type} {f : α → List Value} {kk : Nat} {t te : TypeId} {ok : World → α → Prop} {rl : World → Value → List β → Prop} {g : α → β}
variable {P : Nat} {w W W' : World} {Q Q' : World → Prop} {bs : List Bk} {os : List Im}
theorem Mx.news {T : TK f kk t te ok rl g} {B C : Nat} {v : Value} {tr : List α} {x : α} (h : Mx w P Q bs (im C (fun U => ok U x) :: imR T B v tr :: os) W) : ∀ y ∈ [x], ok (hide (upL B (bs.map Prod.fst ++ ownL v)) W) y := by
 intro y hy
 rw [List.mem_singleton.1 hy]
 have hp := (List.pairwise_cons.1 h.pr).1 _ (List.mem_cons_self ..)
 exact new_reads T.mono hp.2 (h.o 0 rfl) hp.1 (fun q hq => .inr hq)
theorem Mx.pushed {T : TK f kk t te ok rl g} {B : Nat} {v v' : Value} {tr tr' : List α} (h : Mx w P Q bs [imR T B v tr] W) (hg : W.grownBy W' v.ownBlock) (hr : RowOk f kk t ok B (bs.map Prod.fst) W' v' tr') : Mx w P Q bs [imR T B v' tr'] W' := by
 obtain ⟨a, b, d, e⟩ := h.ro _ (List.mem_cons_self ..)
 have ho : ∀ q, v.ownBlock = some q → B ≤ q ∧ q < W.heap.size ∧ q ∉ bs.map Prod.fst := fun q hq => d.own e hq
 have a' : w.heap.size ≤ B := a
 refine ⟨h.pk hg (fun q hq => by have := (ho q hq).1; omega) h.ps, h.pk, gr_row h.gr hg (fun q hq => by have := (ho q hq).1; omega), h.pw, fun x hx => ⟨gr_at hg (h.bl x hx).1 (fun e => ?_), (h.bl x hx).2⟩, h.nd, fun o ho => ?_, List.pairwise_singleton ..⟩
 ·exact (ho x.1 e.symm).2.2 (List.mem_map.2 ⟨x, hx, rfl⟩)
 ·rw [List.mem_singleton.1 ho]
  exact ⟨a, Nat.le_trans b hg.size, imR_it T, hr⟩
theorem Mx.run_push {T : TK f kk t te ok rl g} {B C : Nat} {v : Value} {tr : List α} {x : α} {G : Nat} {cs : Array Value} (h : Mx w P Q ((G, cs, t) :: bs) [im C (fun U => ok U x), imR T B v tr] W) (hcs : cs.toList = f x) (hlen : tr.length ≤ 1000000) (ty : TypeId) :
 ∃ v' W', (Builtin.append_ #[te, te] ty #[v, .slice (some ⟨G, 0, none⟩) 1 1]).run Tryz.prog W = .ok v' W' ∧ ∃ p c, v' = .slice p (tr.length + 1) c ∧ Mx w P Q bs [imR T B v' (tr ++ [x])] W' := by
 obtain ⟨i, z, hi, hz, hs, hb, hc⟩ := T.inf
 have hm : (tr.length + [x].length) * i.bytes ≤ 140737488355328 := Nat.le_trans (Nat.mul_le_mul (show tr.length + 1 ≤ 1000001 by omega) hb) (by decide)
 have hn := h.news
 have h2 := h.ot
 obtain ⟨_, b, _, e⟩ := h2.ro _ (List.mem_cons_self ..)
 have e' : RowOk f kk t ok B (((G, cs, t) :: bs).map Prod.fst) W v tr := e
 obtain ⟨v', W', h3, h4, h5⟩ := Go.Proofs.YtdckddkalgnlpaaGreatDoor.run_push (P := Tryz.prog) T.len T.mono te ty i z i.bytes T.und hi hz hs rfl hc T.pos e' (.slice (some ⟨G, 0, none⟩) 1 1) [x] (SrcAt.of_blk (h.b 0 rfl) hcs) hn (fun a ha => by rw [List.mem_singleton.1 ha]; exact T.one (hn x (List.mem_singleton.2 rfl))) (by simp only [List.length_cons, List.length_nil]; unfold maxLen; omega) hm b (fun q hq => (h.lts hq).2)
 obtain ⟨p, cp, h6⟩ := own_form h4.own
 rw [List.length_append] at h6
 exact ⟨v', W', h3, p, cp, h6, (h2.pushed h5 h4).tl⟩
theorem Mx.run_app {T : TK f kk t te ok rl g} {x : α} {G : Nat} {cs : Array Value} {tr : List α} {v2 : Value} {B2 C : Nat} (h : Mx w P Q ((G, cs, t) :: bs) os W) (i : Nat) (hi : os[i]? = some (im C (fun U => ok U x))) (j : Nat) (hj : os[j]? = some (imR T B2 v2 tr)) (hcs : cs.toList = f x) (hlen : tr.length ≤ 1000000) (ty : TypeId) :
 ∃ v' W', (Builtin.append_ #[te, te] ty #[.slice (some ⟨G, 0, none⟩) 1 1, v2]).run Tryz.prog W = .ok v' W' ∧ ∃ p c, v' = .slice p (tr.length + 1) c ∧ Mx w P Q bs [imR T w.heap.size v' (x :: tr)] W' := by
 obtain ⟨ii, z, hi1, hz, hs, hb, hc⟩ := T.inf
 have hm : ([x].length + tr.length) * ii.bytes ≤ 140737488355328 := Nat.le_trans (Nat.mul_le_mul (show 1 + tr.length ≤ 1000001 by omega) hb) (by decide)
 have h2 := h.tl
 have hG := h.lt 0 rfl
 have hX : G ∉ bs.map Prod.fst := (List.nodup_cons.1 (by have := h.nd; rw [List.map_cons] at this; exact this)).1
 have hin : ∀ q, q < w.heap.size ∨ q ∈ bs.map Prod.fst ++ [G] → ∀ o ∈ os, q < o.B ∨ q ∈ ((G, cs, t) :: bs).map Prod.fst := by
  intro q hq o ho
  rcases hq with hq | hq
  ·exact .inl (Nat.lt_of_lt_of_le hq (h.ro o ho).1)
  ·rw [List.map_cons]
   rcases List.mem_append.1 hq with hq | hq
   ·exact .inr (List.mem_cons_of_mem _ hq)
   ·rw [List.mem_singleton.1 hq]
    exact .inr (List.mem_cons_self ..)
 have hx1 : ok (hide (upL w.heap.size (bs.map Prod.fst ++ [G])) W) x := T.mono _ _ _ (up_mono (fun q _ hq => hin q hq _ (List.mem_of_getElem? hi))) (h.o i hi)
 have hrow := RowOk.lit (f := f) (k := kk) (ok := ok) (B := w.heap.size) (l := bs.map Prod.fst) (h.b 0 rfl) hcs (T.len x) hG.1 hX hx1
 have hr2 : RowOk f kk t ok B2 (((G, cs, t) :: bs).map Prod.fst) W v2 tr := h.o j hj
 have hnews : ∀ y ∈ tr, ok (hide (upL w.heap.size (bs.map Prod.fst ++ ownL (.slice (some ⟨G, 0, none⟩) 1 1))) W) y := fun y hy => T.mono _ _ _ (up_mono (fun q _ hq => by
  rcases hin q hq _ (List.mem_of_getElem? hj) with h3 | h3
  ·exact .inl h3
  ·exact .inr (List.mem_append.2 (.inl h3)))) (hr2.rd y hy)
 obtain ⟨v', W', h3, h4, h5⟩ := Go.Proofs.YtdckddkalgnlpaaGreatDoor.run_push (P := Tryz.prog) T.len T.mono te ty ii z ii.bytes T.und hi1 hz hs rfl hc T.pos hrow v2 tr hr2.src hnews (fun a ha => T.one (hnews a ha)) (by show 1 + tr.length ≤ maxLen; unfold maxLen; omega) hm h.le (fun q hq => (h2.lts hq).2)
 obtain ⟨p, cp, h6⟩ := own_form h4.own
 have e1 : ([x] ++ tr).length = tr.length + 1 := by simp
 rw [e1] at h6
 have hg : W.grownBy W' (some G) := h5
 refine ⟨v', W', h3, p, cp, h6, h2.pk hg (fun q e => by injection e with e; omega) h2.ps, h2.pk, gr_new h2.gr hg hG.1, h2.pw, fun y hy => ⟨gr_at hg (h2.bl y hy).1 (ne_sm (fun e => hX (List.mem_map.2 ⟨y, hy, e⟩))), (h2.bl y hy).2⟩, h2.nd, fun o ho => ?_, List.pairwise_singleton ..⟩
 rw [List.mem_singleton.1 ho]
 exact ⟨Nat.le_refl _, Nat.le_trans h.le hg.size, imR_it T, h4⟩
end
end Go.Proofs.YtdckddkalgnlpaaGreatDoor
