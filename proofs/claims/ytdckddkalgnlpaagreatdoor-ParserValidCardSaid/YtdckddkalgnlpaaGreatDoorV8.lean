/-
  Several texts in one: PaRtS, TrHide.
-/
import Derived.Test.YtdckddkalgnlpaaGreatDoorV7
import Derived.Test.YtdckddkalgnlpaaGreatDoorV1
import Derived.Laws.AppendOwn
namespace Go.Proofs.YtdckddkalgnlpaaGreatDoor
namespace Pa
open Tr
inductive FormS : S → Prop
 | set (k : Int) (nm : ByteArray) (x : E) (hk : k = 0 ∨ k = 1) (hn : varB nm = true) (hx : validE x = true) : FormS (.mk k nm [x] [] [])
 | store (nm : ByteArray) (x y : E) (hn : varB nm = true) (hx : validE x = true) (hy : validE y = true) : FormS (.mk 2 nm [x, y] [] [])
 | cond (x : E) (b l : List S) (hx : validE x = true) (hb : ∀ s ∈ b, validS s = true) (hl : ∀ s ∈ l, validS s = true) : FormS (.mk 3 ⟨#[]⟩ [x] b l)
 | loop (x : E) (b : List S) (hx : validE x = true) (hb : ∀ s ∈ b, validS s = true) : FormS (.mk 4 ⟨#[]⟩ [x] b [])
 | send (nm : ByteArray) (x : E) (l : List E) (hn : varB nm = true) (hx : validE x = true) (hl : ∀ e ∈ l, validE e = true) : FormS (.mk 5 nm (x :: l) [] [])
 | print (x : E) (hx : validE x = true) : FormS (.mk 6 ⟨#[]⟩ [x] [] [])
 | move (x y : E) (hx : validE x = true) (hy : validE y = true) : FormS (.mk 7 ⟨#[]⟩ [x, y] [] [])
 | watch (nm : ByteArray) (x y : E) (hn : varB nm = true) (hx : validE x = true) (hy : validE y = true) : FormS (.mk 8 nm [x, y] [] [])
 | ret : FormS (.mk 9 ⟨#[]⟩ [] [] [])
theorem okS_out {k : Int} {nm : ByteArray} {n nb ne : Nat} (h : k < 0 ∨ 9 < k) : okS k nm n nb ne = false := by
 unfold okS
 rw [if_neg (by omega), if_neg (by omega), if_neg (by omega), if_neg (by omega), if_neg (by omega), if_neg (by omega), if_neg (by omega), if_neg (by omega), if_neg (by omega), if_neg (by omega)]
theorem formS_of (s : S) (h : validS s = true) : FormS s := by
 obtain ⟨k, nm, x, b, l⟩ := s
 rw [validS, Bool.and_eq_true, Bool.and_eq_true, Bool.and_eq_true, validEs_all, validSs_all, validSs_all, List.all_eq_true, List.all_eq_true, List.all_eq_true] at h
 obtain ⟨⟨⟨hx, hok⟩, hb⟩, hl⟩ := h
 have hk : 0 ≤ k ∧ k ≤ 9 := by
  refine Decidable.byContradiction fun hc => ?_
  rw [okS_out (by omega)] at hok
  cases hok
 have hc : k = 0 ∨ k = 1 ∨ k = 2 ∨ k = 3 ∨ k = 4 ∨ k = 5 ∨ k = 6 ∨ k = 7 ∨ k = 8 ∨ k = 9 := by omega
 rcases hc with rfl | rfl | rfl | rfl | rfl | rfl | rfl | rfl | rfl | rfl
 ·have hok : (decide (x.length = 1 ∧ b.length = 0 ∧ l.length = 0) && varB nm) = true := hok
  rw [Bool.and_eq_true, decide_eq_true_eq] at hok
  obtain ⟨⟨h1, h2, h3⟩, hn⟩ := hok
  obtain ⟨e, rfl⟩ := Sy.one_of h1
  obtain rfl := List.eq_nil_of_length_eq_zero h2
  obtain rfl := List.eq_nil_of_length_eq_zero h3
  exact .set 0 nm e (.inl rfl) hn (hx e (by simp))
 ·have hok : (decide (x.length = 1 ∧ b.length = 0 ∧ l.length = 0) && varB nm) = true := hok
  rw [Bool.and_eq_true, decide_eq_true_eq] at hok
  obtain ⟨⟨h1, h2, h3⟩, hn⟩ := hok
  obtain ⟨e, rfl⟩ := Sy.one_of h1
  obtain rfl := List.eq_nil_of_length_eq_zero h2
  obtain rfl := List.eq_nil_of_length_eq_zero h3
  exact .set 1 nm e (.inr rfl) hn (hx e (by simp))
 ·have hok : (decide (x.length = 2 ∧ b.length = 0 ∧ l.length = 0) && varB nm) = true := hok
  rw [Bool.and_eq_true, decide_eq_true_eq] at hok
  obtain ⟨⟨h1, h2, h3⟩, hn⟩ := hok
  obtain ⟨e, y, rfl⟩ := Sy.two_of h1
  obtain rfl := List.eq_nil_of_length_eq_zero h2
  obtain rfl := List.eq_nil_of_length_eq_zero h3
  exact .store nm e y hn (hx e (by simp)) (hx y (by simp))
 ·have hok : decide (x.length = 1 ∧ nm.size = 0) = true := hok
  rw [decide_eq_true_eq] at hok
  obtain ⟨h1, h2⟩ := hok
  obtain ⟨e, rfl⟩ := Sy.one_of h1
  obtain rfl := empty_of h2
  exact .cond e b l (hx e (by simp)) hb hl
 ·have hok : decide (x.length = 1 ∧ nm.size = 0 ∧ l.length = 0) = true := hok
  rw [decide_eq_true_eq] at hok
  obtain ⟨h1, h2, h3⟩ := hok
  obtain ⟨e, rfl⟩ := Sy.one_of h1
  obtain rfl := empty_of h2
  obtain rfl := List.eq_nil_of_length_eq_zero h3
  exact .loop e b (hx e (by simp)) hb
 ·have hok : (decide (1 ≤ x.length ∧ b.length = 0 ∧ l.length = 0) && varB nm) = true := hok
  rw [Bool.and_eq_true, decide_eq_true_eq] at hok
  obtain ⟨⟨h1, h2, h3⟩, hn⟩ := hok
  obtain rfl := List.eq_nil_of_length_eq_zero h2
  obtain rfl := List.eq_nil_of_length_eq_zero h3
  cases x with
  | nil => simp at h1
  | cons e r => exact .send nm e r hn (hx e (by simp)) (fun y hy => hx y (by simp [hy]))
 ·have hok : decide (x.length = 1 ∧ nm.size = 0 ∧ b.length = 0 ∧ l.length = 0) = true := hok
  rw [decide_eq_true_eq] at hok
  obtain ⟨h1, h2, h3, h4⟩ := hok
  obtain ⟨e, rfl⟩ := Sy.one_of h1
  obtain rfl := empty_of h2
  obtain rfl := List.eq_nil_of_length_eq_zero h3
  obtain rfl := List.eq_nil_of_length_eq_zero h4
  exact .print e (hx e (by simp))
 ·have hok : decide (x.length = 2 ∧ nm.size = 0 ∧ b.length = 0 ∧ l.length = 0) = true := hok
  rw [decide_eq_true_eq] at hok
  obtain ⟨h1, h2, h3, h4⟩ := hok
  obtain ⟨e, y, rfl⟩ := Sy.two_of h1
  obtain rfl := empty_of h2
  obtain rfl := List.eq_nil_of_length_eq_zero h3
  obtain rfl := List.eq_nil_of_length_eq_zero h4
  exact .move e y (hx e (by simp)) (hx y (by simp))
 ·have hok : (decide (x.length = 2 ∧ b.length = 0 ∧ l.length = 0) && varB nm) = true := hok
  rw [Bool.and_eq_true, decide_eq_true_eq] at hok
  obtain ⟨⟨h1, h2, h3⟩, hn⟩ := hok
  obtain ⟨e, y, rfl⟩ := Sy.two_of h1
  obtain rfl := List.eq_nil_of_length_eq_zero h2
  obtain rfl := List.eq_nil_of_length_eq_zero h3
  exact .watch nm e y hn (hx e (by simp)) (hx y (by simp))
 ·have hok : decide (x.length = 0 ∧ nm.size = 0 ∧ b.length = 0 ∧ l.length = 0) = true := hok
  rw [decide_eq_true_eq] at hok
  obtain ⟨h1, h2, h3, h4⟩ := hok
  obtain rfl := List.eq_nil_of_length_eq_zero h1
  obtain rfl := empty_of h2
  obtain rfl := List.eq_nil_of_length_eq_zero h3
  obtain rfl := List.eq_nil_of_length_eq_zero h4
  exact .ret
def simpleT (k : Int) (nm : Bytes) (ts : List (Nat × Toks)) : Toks :=
 if k = 0 then kw [108, 101, 116] :: nmT nm :: sy [61] :: (ts.headD (9, [])).2
 else if k = 1 then nmT nm :: sy [61] :: (ts.headD (9, [])).2
 else if k = 2 then parT 9 (ts.headD (9, [])) ++ sy [46] :: nmT nm :: sy [61] :: ((ts.drop 1).headD (9, [])).2
 else if k = 5 then kw [115, 101, 110, 100] :: (parT 8 (ts.headD (9, [])) ++ sy [46] :: nmT nm :: sy [40] :: (commasT ((ts.drop 1).map Prod.snd) ++ [sy [41]]))
 else if k = 6 then kw [112, 114, 105, 110, 116] :: (ts.headD (9, [])).2
 else if k = 7 then kw [109, 111, 118, 101] :: ((ts.headD (9, [])).2 ++ kw [116, 111] :: ((ts.drop 1).headD (9, [])).2)
 else if k = 8 then kw [119, 97, 116, 99, 104] :: ((ts.headD (9, [])).2 ++ kw [98, 121] :: nmT nm :: sy [40] :: (((ts.drop 1).headD (9, [])).2 ++ [sy [41]]))
 else [kw [114, 101, 116, 117, 114, 110]]
def stmtK (k : Int) (nm : Bytes) (ts : List (Nat × Toks)) (body els : Toks) (other : Bool) : Toks :=
 if k = 3 then kw [105, 102] :: ((ts.headD (9, [])).2 ++ sy [123] :: (body ++ sy [125] :: if other then kw [101, 108, 115, 101] :: sy [123] :: (els ++ [sy [125]]) else []))
 else if k = 4 then kw [119, 104, 105, 108, 101] :: ((ts.headD (9, [])).2 ++ sy [123] :: (body ++ [sy [125]]))
 else simpleT k nm ts ++ [sy [59]]
mutual
def tokS : S → Toks
 | .mk k nm x b l => stmtK k nm.data.toList (tokss x) (tokSs b) (tokSs l) (decide (0 < l.length))
def tokSs : List S → Toks
 | [] => []
 | s :: r => tokS s ++ tokSs r
end
def paramsT (l : List ByteArray) : Toks := commasT (l.map fun p => [nmT p.data.toList])
def tokM (m : M) : Toks := kw [111, 110] :: nmT m.name.data.toList :: sy [40] :: (paramsT m.params ++ sy [41] :: sy [123] :: (tokSs m.body ++ [sy [125]]))
def fieldK (s : ByteArray) : Toks := [kw [118, 97, 114], nmT s.data.toList, sy [59]]
def tokC (c : C) : Toks := kw (if c.actor then [97, 99, 116, 111, 114] else [114, 101, 99, 111, 114, 100]) :: clT c.name.data.toList :: sy [123] :: ((c.fields.map fieldK).flatten ++ ((c.methods.map tokM).flatten ++ [sy [125]]))
def tokP (l : List C) : Toks := (l.map tokC).flatten
theorem level_le9 (e : E) : Sy.level e ≤ 9 := by
 obtain ⟨k, o, i, nm, a, l⟩ := e
 show Sy.levelK k o a ≤ 9
 unfold Sy.levelK Sy.opLevel
 repeat' split
 all_goals omega
def First (ts : Toks) : Prop := ∃ x r, ts = x :: r ∧ (x.kind = 2 → r = []) ∧ (x.kind = 1 ∨ x.kind = 2 ∨ x.text = [110, 105, 108] ∨ x.text = [116, 104, 105, 115] ∨ x.text = [110, 101, 119] ∨ x.text = [40])
theorem first9 (e : E) (h : validE e = true) : First (argT 9 e) := by
 rcases Nat.lt_or_ge (Sy.level e) 9 with hl | hl
 ·rw [argT_out hl]; exact ⟨_, _, rfl, fun h => absurd h (by decide), .inr (.inr (.inr (.inr (.inr rfl))))⟩
 ·rw [argT_in hl]
  cases form_of e h with
  | num m _ => rw [toks_num]; exact ⟨_, _, rfl, fun h => absurd h (show ¬ 1 = 2 by decide), .inl rfl⟩
  | nil => rw [toks_leaf1]; exact ⟨_, _, rfl, fun _ => rfl, .inr (.inr (.inl rfl))⟩
  | this => rw [toks_leaf2]; exact ⟨_, _, rfl, fun _ => rfl, .inr (.inr (.inr (.inl rfl)))⟩
  | var nm _ => rw [toks_var]; exact ⟨_, _, rfl, fun _ => rfl, .inr (.inl rfl)⟩
  | fld nm x _ _ => exact absurd hl (by show ¬ 9 ≤ 8; decide)
  | new nm l _ _ => rw [toks_new]; exact ⟨_, _, rfl, fun h => absurd h (show ¬ 4 = 2 by decide), .inr (.inr (.inr (.inr (.inl rfl))))⟩
  | newAt nm l y _ _ _ => exact absurd hl (by show ¬ 9 ≤ 7; decide)
  | un k x hk _ =>
    rcases hk with rfl | rfl | rfl | rfl
    ·exact absurd hl (by show ¬ 9 ≤ 7; decide)
    ·exact absurd hl (by show ¬ 9 ≤ 7; decide)
    ·exact absurd hl (by show ¬ 9 ≤ 7; decide)
    ·exact absurd hl (by show ¬ 9 ≤ 3; decide)
  | bin o x y h0 h1 _ _ =>
    have : Sy.level (bin o x y) = Sy.opLevel o := rfl
    have := op_level o h0 h1
    omega
theorem First.is {ts : Toks} (h : First ts) (t : Bytes) (ht : t ∉ [[110, 105, 108], [116, 104, 105, 115], [110, 101, 119], [40]]) (rest : Toks) : is t (ts ++ rest) = false := by
 obtain ⟨x, r, rfl, _, h⟩ := h
 rw [List.cons_append, is_cons]
 rcases h with h | h | h | h | h | h
 ·rw [h]; simp
 ·rw [h]; simp
 all_goals
  rw [h, Bool.and_eq_false_iff]
  refine .inl (beq_eq_false_iff_ne.2 fun hc => ht ?_)
  rw [← hc]
  simp
theorem pS_s (f : Nat) (ts : Toks) : pS (f + 1) ts =
 if is [105, 102] ts then (pE f 0 ts.tail).bind fun e r => (pB f r).bind fun b r =>
  if is [101, 108, 115, 101] r then (pB f r.tail).bind fun l r => .ok (.mk 3 ⟨#[]⟩ [e] b l) r else .ok (.mk 3 ⟨#[]⟩ [e] b []) r
 else if is [119, 104, 105, 108, 101] ts then (pE f 0 ts.tail).bind fun e r => (pB f r).bind fun b r => .ok (.mk 4 ⟨#[]⟩ [e] b []) r
 else (pSimple f ts).bind fun s r => (expect [59] r).bind fun _ r => .ok s r := by rw [pS]
theorem pB_s (f : Nat) (ts : Toks) : pB (f + 1) ts = (expect [123] ts).bind fun _ r => pSs f [] r := by rw [pB]
theorem pSs_s (f : Nat) (l : List S) (ts : Toks) : pSs (f + 1) l ts = if is [125] ts then .ok l ts.tail else (pS f ts).bind fun s r => pSs f (l ++ [s]) r := by rw [pSs]
theorem pSend_s (f : Nat) (a : E) (n : ByteArray) (ts : Toks) : pSend (f + 1) a n ts = if is [46] ts then (word 2 ts.tail).bind fun m r => pSend f (fld n a) m r else (pA f ts).bind fun l r => .ok (.mk 5 n (a :: l) [] []) r := by rw [pSend]
theorem Ok.cong {α : Type} {p q : Nat → R α} {a : α} {r : Toks} (h : ∀ f, p f = q f) (hb : Ok q a r) : Ok p a r := by
 obtain ⟨F, hb⟩ := hb
 exact ⟨F, fun f hf => (h f).trans (hb f hf)⟩
theorem Reach.cong {α : Type} {p q s : Nat → R α} (h : ∀ f, p f = q f) (hb : Reach q s) : Reach p s := by
 obtain ⟨F, D, hb⟩ := hb
 exact ⟨F, D, fun f hf => by rw [h]; exact hb f hf⟩
theorem bind_ok {α β : Type} (a : α) (r : Toks) (f : α → Toks → R β) : (R.ok a r).bind f = f a r := rfl
theorem expect_sy (t : Bytes) (r : Toks) : expect t (sy t :: r) = .ok () r := by
 unfold expect
 rw [if_pos (by rw [is_cons]; show (t == t && true) = true; simp)]
 rfl
theorem expect_kw (t : Bytes) (r : Toks) : expect t (kw t :: r) = .ok () r := by
 unfold expect
 rw [if_pos (by rw [is_cons]; show (t == t && true) = true; simp)]
 rfl
theorem is_kw (t : Bytes) (r : Toks) : is t (kw t :: r) = true := by rw [is_cons]; show (t == t && true) = true; simp
theorem is_sy (t : Bytes) (r : Toks) : is t (sy t :: r) = true := by rw [is_cons]; show (t == t && true) = true; simp
theorem whole {e : E} (h : RtE e) {rest : Toks} (hs : Stop 0 rest) : Ok (fun f => pE f 0 (toks e ++ rest)) e rest := h.pe 0 rest (by omega) (level_pos e) hs
theorem set_ok (k : Int) (nm : ByteArray) (x : E) (h : RtE x) {rest : Toks} (hs : Stop 0 rest) : Ok (fun f => pSet f k (nmT nm.data.toList :: sy [61] :: (toks x ++ rest))) (.mk k nm [x] [] []) rest := by
 refine .cong (q := fun f => (pE f 0 (toks x ++ rest)).bind fun e r => .ok (.mk k nm [e] [] []) r) (fun f => ?_) (.bind (whole h hs) (.pure _ _))
 show (word 2 (nmT nm.data.toList :: sy [61] :: (toks x ++ rest))).bind _ = _
 rw [word_nm]
 rfl
theorem target_reach : ∀ (n : Nat) (e : E), Sy.sizeE e ≤ n → validE e = true → ∀ (nm : ByteArray) (rest : Toks),
 Reach (fun f => (pO f (argT 8 e ++ sy [46] :: nmT nm.data.toList :: rest)).bind fun a r => (expect [46] r).bind fun _ r => (word 2 r).bind fun m r => pSend f a m r) (fun g => pSend g e nm rest)
 | 0, e, h, _ => by have : 0 < Sy.sizeE e := by (cases e; rw [Sy.sizeE]; omega)
                    omega
 | n + 1, e, hsz, hv => by
   intro nm rest
   have hr := rt_expr e hv
   have hfin : ∀ f, ((expect [46] (sy [46] :: nmT nm.data.toList :: rest)).bind fun _ r => (word 2 r).bind fun m r => pSend f e m r) = pSend f e nm rest := fun f => by
    show (word 2 (nmT nm.data.toList :: rest)).bind _ = _
    rw [word_nm]
    rfl
   have hdir : Ok (fun f => pO f (argT 8 e ++ sy [46] :: nmT nm.data.toList :: rest)) e (sy [46] :: nmT nm.data.toList :: rest) → Reach (fun f => (pO f (argT 8 e ++ sy [46] :: nmT nm.data.toList :: rest)).bind fun a r => (expect [46] r).bind fun _ r => (word 2 r).bind fun m r => pSend f a m r) (fun g => pSend g e nm rest) := fun h =>
    (Reach.bind h).trans (Reach.cong hfin ⟨0, 0, fun f _ => ⟨f, Nat.le_refl _, rfl⟩⟩)
   rcases Nat.lt_or_ge (Sy.level e) 8 with hl | hl
   ·refine hdir ?_
    rw [argT_out hl]
    exact wrap hr _
   ·by_cases h9 : Sy.level e = 9
    ·refine hdir ?_
     rw [argT_in hl]
     exact hr.po _ h9 rfl
    ·rw [argT_in hl]
     cases form_of e hv with
     | fld m x hm hx =>
       rw [toks_fld, List.append_assoc]
       refine (target_reach n x (by have := size_args (k := 4) (o := 0) (i := 0) (nm := m) (a := false) (l := [x]) (x := x) (by simp); unfold fld at hsz; omega) hx m (sy [46] :: nmT nm.data.toList :: rest)).trans (.step fun f => ?_)
       rw [pSend_s, if_pos (show is [46] (sy [46] :: nmT nm.data.toList :: rest) = true from rfl)]
       show (word 2 (nmT nm.data.toList :: rest)).bind _ = _
       rw [word_nm]
       rfl
     | num m _ => exact absurd (show Sy.level (num m) = 9 from rfl) h9
     | nil => exact absurd (show Sy.level (leaf 1) = 9 from rfl) h9
     | this => exact absurd (show Sy.level (leaf 2) = 9 from rfl) h9
     | var nm _ => exact absurd (show Sy.level (var nm) = 9 from rfl) h9
     | new nm l _ _ => exact absurd (show Sy.level (new nm false l) = 9 from rfl) h9
     | newAt nm l y _ _ _ => exact absurd hl (by show ¬ 8 ≤ 7; decide)
     | un k x hk _ =>
       rcases hk with rfl | rfl | rfl | rfl
       ·exact absurd hl (by show ¬ 8 ≤ 7; decide)
       ·exact absurd hl (by show ¬ 8 ≤ 7; decide)
       ·exact absurd hl (by show ¬ 8 ≤ 7; decide)
       ·exact absurd hl (by show ¬ 8 ≤ 3; decide)
     | bin o x y h0 h1 _ _ =>
       have : Sy.level (bin o x y) = Sy.opLevel o := rfl
       have := op_level o h0 h1
       omega
structure RtS (s : S) : Prop where
 ok : ∀ rest, is [101, 108, 115, 101] rest = false → Ok (fun f => pS f (tokS s ++ rest)) s rest
 cl : ∀ rest, is [125] (tokS s ++ rest) = false
 el : ∀ rest, is [101, 108, 115, 101] (tokS s ++ rest) = false
theorem stop_semi (rest : Toks) : Stop 0 (sy [59] :: rest) := stop_sym _ _ (by decide)
theorem stop_brace (rest : Toks) : Stop 0 (sy [123] :: rest) := stop_sym _ _ (by decide)
theorem stop_kw {t : Bytes} (h : t ∉ [[46], [97, 116], [43], [45], [42], [47], [37], [61, 61], [33, 61], [60], [60, 61], [62], [62, 61], [97, 110, 100], [111, 114]]) (rest : Toks) : Stop 0 (kw t :: rest) := stop_sym _ _ h
theorem rt_simple {s : S} {ts : Toks} (ht : tokS s = ts ++ [sy [59]]) (h1 : ∀ rest, is [105, 102] (ts ++ rest) = false) (h2 : ∀ rest, is [119, 104, 105, 108, 101] (ts ++ rest) = false) (h3 : ∀ rest, is [125] (ts ++ rest) = false) (h4 : ∀ rest, is [101, 108, 115, 101] (ts ++ rest) = false)
 (hok : ∀ rest, Ok (fun f => pSimple f (ts ++ sy [59] :: rest)) s (sy [59] :: rest)) : RtS s := by
 refine ⟨fun rest _ => ?_, fun rest => by rw [ht, List.append_assoc]; exact h3 _, fun rest => by rw [ht, List.append_assoc]; exact h4 _⟩
 rw [ht, List.append_assoc]
 refine .step (body := fun f => (pSimple f (ts ++ sy [59] :: rest)).bind fun s r => (expect [59] r).bind fun _ r => .ok s r) (fun f => ?_) (.bind (hok rest) (.pure _ _))
 rw [pS_s]
 show (if is [105, 102] (ts ++ sy [59] :: rest) = true then _ else if is [119, 104, 105, 108, 101] (ts ++ sy [59] :: rest) = true then _ else _) = _
 rw [h1, h2]
 rfl
theorem ss_ok : ∀ (l acc : List S) (rest : Toks), (∀ s ∈ l, RtS s) → Ok (fun f => pSs f acc (tokSs l ++ sy [125] :: rest)) (acc ++ l) rest
 | [], acc, rest, _ => by
   refine .step (body := fun _ => .ok acc rest) (fun f => by rw [pSs_s]; rfl) ?_
   rw [List.append_nil]
   exact .pure acc rest
 | s :: r, acc, rest, h => by
   have ih := ss_ok r (acc ++ [s]) rest fun x hx => h x (by simp [hx])
   rw [List.append_assoc] at ih
   have hs := h s (by simp)
   rw [tokSs, List.append_assoc]
   refine .step (body := fun f => (pS f (tokS s ++ (tokSs r ++ sy [125] :: rest))).bind fun s r => pSs f (acc ++ [s]) r) (fun f => ?_) (.bind (hs.ok _ ?_) ih)
   ·rw [pSs_s, if_neg (by rw [hs.cl]; decide)]
   ·cases r with
    | nil => rw [tokSs]; rfl
    | cons s2 r2 =>
      rw [tokSs, List.append_assoc]
      exact (h s2 (by simp)).el _
theorem block_ok (l : List S) (rest : Toks) (h : ∀ s ∈ l, RtS s) : Ok (fun f => pB f (sy [123] :: (tokSs l ++ sy [125] :: rest))) l rest :=
 .step (body := fun f => pSs f [] (tokSs l ++ sy [125] :: rest)) (fun f => by rw [pB_s]; rfl) (ss_ok l [] rest h)
theorem rt_set0 (nm : ByteArray) (x : E) (h : RtE x) : RtS (.mk 0 nm [x] [] []) := by
 refine rt_simple (ts := kw [108, 101, 116] :: nmT nm.data.toList :: sy [61] :: toks x) (by rw [tokS, tokss, tokss, tokSs]; rfl) (fun _ => rfl) (fun _ => rfl) (fun _ => rfl) (fun _ => rfl) fun rest => ?_
 exact .cong (q := fun f => pSet f 0 (nmT nm.data.toList :: sy [61] :: (toks x ++ sy [59] :: rest))) (fun f => rfl) (set_ok 0 nm x h (stop_semi rest))
theorem pS_set1 (f : Nat) (nm : Bytes) (r : Toks) : pSimple f (nmT nm :: sy [61] :: r) = pSet f 1 (nmT nm :: sy [61] :: r) := by
 have hno : ∀ t, is t (nmT nm :: sy [61] :: r) = false := fun t => by rw [is_cons]; show (_ && false) = false; rw [Bool.and_false]
 unfold pSimple
 rw [hno, hno, hno, hno, hno, hno]
 rfl
theorem rt_set1 (nm : ByteArray) (x : E) (h : RtE x) : RtS (.mk 1 nm [x] [] []) := by
 have hno : ∀ t r, is t (nmT nm.data.toList :: r) = false := fun t r => by rw [is_cons]; show (_ && false) = false; rw [Bool.and_false]
 refine rt_simple (ts := nmT nm.data.toList :: sy [61] :: toks x) (by rw [tokS, tokss, tokss, tokSs]; rfl) (fun _ => hno _ _) (fun _ => hno _ _) (fun _ => hno _ _) (fun _ => hno _ _) fun rest => ?_
 exact .cong (q := fun f => pSet f 1 (nmT nm.data.toList :: sy [61] :: (toks x ++ sy [59] :: rest))) (fun f => pS_set1 f _ _) (set_ok 1 nm x h (stop_semi rest))
theorem rt_store (nm : ByteArray) (x y : E) (hv : validE x = true) (h : RtE x) (hy : RtE y) : RtS (.mk 2 nm [x, y] [] []) := by
 have hf := first9 x hv
 refine rt_simple (ts := argT 9 x ++ sy [46] :: nmT nm.data.toList :: sy [61] :: toks y) (by rw [tokS, tokss, tokss, tokss, tokSs]; rfl) (fun _ => by rw [List.append_assoc]; exact hf.is _ (by decide) _) (fun _ => by rw [List.append_assoc]; exact hf.is _ (by decide) _) (fun _ => by rw [List.append_assoc]; exact hf.is _ (by decide) _) (fun _ => by rw [List.append_assoc]; exact hf.is _ (by decide) _) fun rest => ?_
 rw [List.append_assoc]
 have hgo : ∀ f, pSimple f (argT 9 x ++ (sy [46] :: nmT nm.data.toList :: sy [61] :: toks y ++ sy [59] :: rest)) = (pO (f + 1) (argT 9 x ++ (sy [46] :: nmT nm.data.toList :: sy [61] :: toks y ++ sy [59] :: rest))).bind fun a r => (expect [46] r).bind fun _ r => (word 2 r).bind fun n r => (expect [61] r).bind fun _ r => (pE f 0 r).bind fun b r => .ok (.mk 2 n [a, b] [] []) r := fun f => by
  unfold pSimple
  rw [hf.is _ (by decide), hf.is _ (by decide), hf.is _ (by decide), hf.is _ (by decide), hf.is _ (by decide), hf.is _ (by decide)]
  have hc : ¬ (((argT 9 x ++ (sy [46] :: nmT nm.data.toList :: sy [61] :: toks y ++ sy [59] :: rest)).headD default).kind = 2 ∧ is [61] (argT 9 x ++ (sy [46] :: nmT nm.data.toList :: sy [61] :: toks y ++ sy [59] :: rest)).tail = true) := by
   rintro ⟨h2, h3⟩
   obtain ⟨t, r, e, ht, _⟩ := hf
   rw [e] at h2 h3
   have hr := ht h2
   rw [hr] at h3
   exact absurd h3 (show ¬ false = true by decide)
  rw [if_neg (by decide), if_neg (by decide), if_neg (by decide), if_neg (by decide), if_neg (by decide), if_neg (by decide), if_neg hc]
 refine .cong hgo ?_
 have hO : Ok (fun f => pO f (argT 9 x ++ (sy [46] :: nmT nm.data.toList :: sy [61] :: toks y ++ sy [59] :: rest))) x (sy [46] :: nmT nm.data.toList :: sy [61] :: (toks y ++ sy [59] :: rest)) := by
  rcases Nat.lt_or_ge (Sy.level x) 9 with hl | hl
  ·rw [argT_out hl]; exact wrap h _
  ·rw [argT_in hl]; exact h.po _ (by have := (level_le9 x); omega) rfl
 have hO : Ok (fun f => pO (f + 1) (argT 9 x ++ (sy [46] :: nmT nm.data.toList :: sy [61] :: toks y ++ sy [59] :: rest))) x (sy [46] :: nmT nm.data.toList :: sy [61] :: (toks y ++ sy [59] :: rest)) := by
  obtain ⟨F, h⟩ := hO
  exact ⟨F, fun f hf => h (f + 1) (by omega)⟩
 refine .bind hO (.cong (q := fun f => (pE f 0 (toks y ++ sy [59] :: rest)).bind fun b r => .ok (.mk 2 nm [x, b] [] []) r) (fun f => ?_) (.bind (whole hy (stop_semi rest)) (.pure _ _)))
 simp only [expect_sy, bind_ok, word_nm]
theorem rt_send (nm : ByteArray) (x : E) (l : List E) (hv : validE x = true) (h : ∀ e ∈ l, RtE e) : RtS (.mk 5 nm (x :: l) [] []) := by
 have hts : tokS (.mk 5 nm (x :: l) [] []) = (kw [115, 101, 110, 100] :: (argT 8 x ++ sy [46] :: nmT nm.data.toList :: sy [40] :: (commasT (l.map toks) ++ [sy [41]]))) ++ [sy [59]] := by
  rw [tokS, tokss, tokss_map, tokSs]
  show kw [115, 101, 110, 100] :: (argT 8 x ++ sy [46] :: nmT nm.data.toList :: sy [40] :: (commasT ((l.map fun e => (Sy.level e, toks e)).map Prod.snd) ++ [sy [41]])) ++ [sy [59]] = _
  rw [List.map_map]
  rfl
 refine rt_simple hts (fun _ => rfl) (fun _ => rfl) (fun _ => rfl) (fun _ => rfl) fun rest => ?_
 have h1 : ∀ f, pSimple f (kw [115, 101, 110, 100] :: (argT 8 x ++ sy [46] :: nmT nm.data.toList :: sy [40] :: (commasT (l.map toks) ++ [sy [41]])) ++ sy [59] :: rest) =
  (pO f (argT 8 x ++ sy [46] :: nmT nm.data.toList :: sy [40] :: (commasT (l.map toks) ++ sy [41] :: sy [59] :: rest))).bind fun a r => (expect [46] r).bind fun _ r => (word 2 r).bind fun n r => pSend f a n r := fun f => by
  rw [List.cons_append, List.append_assoc, List.cons_append, List.cons_append, List.cons_append, List.append_assoc]
  rfl
 refine .cong h1 ((target_reach _ x (Nat.le_refl _) hv nm (sy [40] :: (commasT (l.map toks) ++ sy [41] :: sy [59] :: rest))).ok ?_)
 exact .step (body := fun f => (pA f (sy [40] :: (commasT (l.map toks) ++ sy [41] :: sy [59] :: rest))).bind fun l r => .ok (.mk 5 nm (x :: l) [] []) r) (fun f => by rw [pSend_s]; rfl) (.bind (args_ok l _ h) (.pure _ _))
theorem rt_print (x : E) (h : RtE x) : RtS (.mk 6 ⟨#[]⟩ [x] [] []) := by
 refine rt_simple (ts := kw [112, 114, 105, 110, 116] :: toks x) (by rw [tokS, tokss, tokss, tokSs]; rfl) (fun _ => rfl) (fun _ => rfl) (fun _ => rfl) (fun _ => rfl) fun rest => ?_
 exact .cong (q := fun f => (pE f 0 (toks x ++ sy [59] :: rest)).bind fun e r => .ok (.mk 6 ⟨#[]⟩ [e] [] []) r) (fun f => rfl) (.bind (whole h (stop_semi rest)) (.pure _ _))
theorem rt_move (x y : E) (h : RtE x) (hy : RtE y) : RtS (.mk 7 ⟨#[]⟩ [x, y] [] []) := by
 refine rt_simple (ts := kw [109, 111, 118, 101] :: (toks x ++ kw [116, 111] :: toks y)) (by rw [tokS, tokss, tokss, tokss, tokSs]; rfl) (fun _ => rfl) (fun _ => rfl) (fun _ => rfl) (fun _ => rfl) fun rest => ?_
 refine .cong (q := fun f => (pE f 0 (toks x ++ kw [116, 111] :: (toks y ++ sy [59] :: rest))).bind fun a r => (expect [116, 111] r).bind fun _ r => (pE f 0 r).bind fun b r => .ok (.mk 7 ⟨#[]⟩ [a, b] [] []) r) (fun f => ?_) (.bind (whole h (stop_kw (by decide) _)) ?_)
 ·rw [List.cons_append, List.append_assoc]; rfl
 ·exact .cong (q := fun f => (pE f 0 (toks y ++ sy [59] :: rest)).bind fun b r => .ok (.mk 7 ⟨#[]⟩ [x, b] [] []) r) (fun f => rfl) (.bind (whole hy (stop_semi rest)) (.pure _ _))
theorem rt_watch (nm : ByteArray) (x y : E) (h : RtE x) (hy : RtE y) : RtS (.mk 8 nm [x, y] [] []) := by
 refine rt_simple (ts := kw [119, 97, 116, 99, 104] :: (toks x ++ kw [98, 121] :: nmT nm.data.toList :: sy [40] :: (toks y ++ [sy [41]]))) (by rw [tokS, tokss, tokss, tokss, tokSs]; rfl) (fun _ => rfl) (fun _ => rfl) (fun _ => rfl) (fun _ => rfl) fun rest => ?_
 refine .cong (q := fun f => (pE f 0 (toks x ++ kw [98, 121] :: nmT nm.data.toList :: sy [40] :: (toks y ++ sy [41] :: sy [59] :: rest))).bind fun a r => (expect [98, 121] r).bind fun _ r => (word 2 r).bind fun n r => (expect [40] r).bind fun _ r => (pE f 0 r).bind fun b r => (expect [41] r).bind fun _ r => .ok (.mk 8 n [a, b] [] []) r) (fun f => ?_) (.bind (whole h (stop_kw (by decide) _)) ?_)
 ·rw [List.cons_append, List.append_assoc, List.cons_append, List.cons_append, List.cons_append, List.append_assoc]; rfl
 ·refine .cong (q := fun f => (pE f 0 (toks y ++ sy [41] :: sy [59] :: rest)).bind fun b r => (expect [41] r).bind fun _ r => .ok (.mk 8 nm [x, b] [] []) r) (fun f => ?_) (.bind (whole hy (stop_close _)) (.cong (q := fun _ => .ok (.mk 8 nm [x, y] [] []) (sy [59] :: rest)) (fun _ => by simp only [expect_sy, bind_ok]) (.pure _ _)))
  simp only [expect_sy, expect_kw, bind_ok, word_nm]
theorem rt_ret : RtS (.mk 9 ⟨#[]⟩ [] [] []) := by
 refine rt_simple (ts := [kw [114, 101, 116, 117, 114, 110]]) (by rw [tokS, tokss, tokSs]; rfl) (fun _ => rfl) (fun _ => rfl) (fun _ => rfl) (fun _ => rfl) fun rest => ?_
 exact .cong (q := fun _ => .ok (.mk 9 ⟨#[]⟩ [] [] []) (sy [59] :: rest)) (fun f => rfl) (.pure _ _)
theorem rt_loop (x : E) (b : List S) (h : RtE x) (hb : ∀ s ∈ b, RtS s) : RtS (.mk 4 ⟨#[]⟩ [x] b []) := by
 have ht : ∀ rest, tokS (.mk 4 ⟨#[]⟩ [x] b []) ++ rest = kw [119, 104, 105, 108, 101] :: (toks x ++ sy [123] :: (tokSs b ++ sy [125] :: rest)) := fun rest => by
  rw [tokS, tokss, tokss, tokSs]
  show kw [119, 104, 105, 108, 101] :: (toks x ++ sy [123] :: (tokSs b ++ [sy [125]])) ++ rest = _
  rw [List.cons_append, List.append_assoc, List.cons_append, List.append_assoc]
  rfl
 refine ⟨fun rest _ => ?_, fun rest => by rw [ht]; rfl, fun rest => by rw [ht]; rfl⟩
 rw [ht]
 exact .step (body := fun f => (pE f 0 (toks x ++ sy [123] :: (tokSs b ++ sy [125] :: rest))).bind fun e r => (pB f r).bind fun b r => .ok (.mk 4 ⟨#[]⟩ [e] b []) r) (fun f => by rw [pS_s]; rfl) (.bind (whole h (stop_brace _)) (.bind (block_ok b rest hb) (.pure _ _)))
theorem rt_cond (x : E) (b l : List S) (h : RtE x) (hb : ∀ s ∈ b, RtS s) (hl : ∀ s ∈ l, RtS s) : RtS (.mk 3 ⟨#[]⟩ [x] b l) := by
 cases l with
 | nil =>
   have ht : ∀ rest, tokS (.mk 3 ⟨#[]⟩ [x] b []) ++ rest = kw [105, 102] :: (toks x ++ sy [123] :: (tokSs b ++ sy [125] :: rest)) := fun rest => by
    rw [tokS, tokss, tokss, tokSs]
    show kw [105, 102] :: (toks x ++ sy [123] :: (tokSs b ++ [sy [125]])) ++ rest = _
    rw [List.cons_append, List.append_assoc, List.cons_append, List.append_assoc]
    rfl
   refine ⟨fun rest he => ?_, fun rest => by rw [ht]; rfl, fun rest => by rw [ht]; rfl⟩
   rw [ht]
   refine .step (body := fun f => (pE f 0 (toks x ++ sy [123] :: (tokSs b ++ sy [125] :: rest))).bind fun e r => (pB f r).bind fun b r => if is [101, 108, 115, 101] r then (pB f r.tail).bind fun l r => .ok (.mk 3 ⟨#[]⟩ [e] b l) r else .ok (.mk 3 ⟨#[]⟩ [e] b []) r) (fun f => by rw [pS_s]; rfl) (.bind (whole h (stop_brace _)) (.bind (block_ok b rest hb) ?_))
   exact .cong (q := fun _ => .ok (.mk 3 ⟨#[]⟩ [x] b []) rest) (fun f => by rw [he]; rfl) (.pure _ _)
 | cons s r =>
   have ht : ∀ rest, tokS (.mk 3 ⟨#[]⟩ [x] b (s :: r)) ++ rest = kw [105, 102] :: (toks x ++ sy [123] :: (tokSs b ++ sy [125] :: kw [101, 108, 115, 101] :: sy [123] :: (tokSs (s :: r) ++ sy [125] :: rest))) := fun rest => by
    rw [tokS, tokss, tokss]
    show kw [105, 102] :: (toks x ++ sy [123] :: (tokSs b ++ sy [125] :: if decide (0 < (s :: r).length) then kw [101, 108, 115, 101] :: sy [123] :: (tokSs (s :: r) ++ [sy [125]]) else [])) ++ rest = _
    rw [if_pos (by simp), List.cons_append, List.append_assoc, List.cons_append, List.append_assoc, List.cons_append, List.cons_append, List.cons_append, List.append_assoc]
    rfl
   refine ⟨fun rest he => ?_, fun rest => by rw [ht]; rfl, fun rest => by rw [ht]; rfl⟩
   rw [ht]
   refine .step (body := fun f => (pE f 0 (toks x ++ sy [123] :: (tokSs b ++ sy [125] :: kw [101, 108, 115, 101] :: sy [123] :: (tokSs (s :: r) ++ sy [125] :: rest)))).bind fun e r => (pB f r).bind fun b r => if is [101, 108, 115, 101] r then (pB f r.tail).bind fun l r => .ok (.mk 3 ⟨#[]⟩ [e] b l) r else .ok (.mk 3 ⟨#[]⟩ [e] b []) r) (fun f => by rw [pS_s]; rfl) (.bind (whole h (stop_brace _)) (.bind (block_ok b _ hb) ?_))
   exact .cong (q := fun f => (pB f (sy [123] :: (tokSs (s :: r) ++ sy [125] :: rest))).bind fun l r => .ok (.mk 3 ⟨#[]⟩ [x] b l) r) (fun f => rfl) (.bind (block_ok (s :: r) rest hl) (.pure _ _))
theorem size_in {s : S} : ∀ {l : List S}, s ∈ l → Sy.sizeS s ≤ Sy.sizeSs l
 | x :: r, h => by
   rw [Sy.sizeSs]
   rcases List.mem_cons.1 h with rfl | h
   ·omega
   ·have := size_in h; omega
theorem rtS_all : ∀ (n : Nat) (s : S), Sy.sizeS s ≤ n → validS s = true → RtS s
 | 0, s, h, _ => by have : 0 < Sy.sizeS s := by (cases s; rw [Sy.sizeS]; omega)
                    omega
 | n + 1, s, h, hv => by
   have key : ∀ {k : Int} {nm : ByteArray} {x : List E} {b l : List S}, s = .mk k nm x b l → (∀ t ∈ b, validS t = true) → (∀ t ∈ l, validS t = true) → (∀ t ∈ b, RtS t) ∧ ∀ t ∈ l, RtS t := fun e hb hl => by
    subst e
    rw [Sy.sizeS] at h
    exact ⟨fun t ht => rtS_all n t (by have := size_in ht; omega) (hb t ht), fun t ht => rtS_all n t (by have := size_in ht; omega) (hl t ht)⟩
   cases formS_of s hv with
   | set k nm x hk hn hx =>
     rcases hk with rfl | rfl
     ·exact rt_set0 nm x (rt_expr x hx)
     ·exact rt_set1 nm x (rt_expr x hx)
   | store nm x y hn hx hy => exact rt_store nm x y hx (rt_expr x hx) (rt_expr y hy)
   | cond x b l hx hb hl => exact rt_cond x b l (rt_expr x hx) (key rfl hb hl).1 (key rfl hb hl).2
   | loop x b hx hb => exact rt_loop x b (rt_expr x hx) (key rfl hb (fun _ h => by cases h)).1
   | send nm x l hn hx hl => exact rt_send nm x l hx fun e he => rt_expr e (hl e he)
   | print x hx => exact rt_print x (rt_expr x hx)
   | move x y hx hy => exact rt_move x y (rt_expr x hx) (rt_expr y hy)
   | watch nm x y hn hx hy => exact rt_watch nm x y (rt_expr x hx) (rt_expr y hy)
   | ret => exact rt_ret
theorem rt_stmt (s : S) (hv : validS s = true) : RtS s := rtS_all _ s (Nat.le_refl _) hv
theorem rt_block (l : List S) (rest : Toks) (hv : validSs l = true) : Ok (fun f => pB f (sy [123] :: (tokSs l ++ sy [125] :: rest))) l rest :=
 block_ok l rest fun s hs => rt_stmt s (by rw [validSs_all, List.all_eq_true] at hv; exact hv s hs)
theorem pFields_s (f : Nat) (l : List ByteArray) (ts : Toks) : pFields (f + 1) l ts = if is [118, 97, 114] ts then (word 2 ts.tail).bind fun n r => (expect [59] r).bind fun _ r => pFields f (l ++ [n]) r else .ok l ts := by rw [pFields]
theorem pParam_s (f : Nat) (l : List ByteArray) (ts : Toks) : pParam (f + 1) l ts = if is [44] ts then (word 2 ts.tail).bind fun n r => pParam f (l ++ [n]) r else (expect [41] ts).bind fun _ r => .ok l r := by rw [pParam]
theorem pMs_s (f : Nat) (l : List M) (ts : Toks) : pMs (f + 1) l ts = if is [111, 110] ts then (word 2 ts.tail).bind fun n r => (pParams f r).bind fun p r => (pB f r).bind fun b r => pMs f (l ++ [⟨n, p, b⟩]) r else .ok l ts := by rw [pMs]
theorem pP_s (f : Nat) (l : List C) (ts : Toks) : pP (f + 1) l ts = if (ts.headD default).kind = 0 then .ok l ts else (pC f ts).bind fun c r => pP f (l ++ [c]) r := by rw [pP]
theorem fields_ok : ∀ (l acc : List ByteArray) (rest : Toks), is [118, 97, 114] rest = false → Ok (fun f => pFields f acc ((l.map fieldK).flatten ++ rest)) (acc ++ l) rest
 | [], acc, rest, h => by
   refine .step (body := fun _ => .ok acc rest) (fun f => ?_) ?_
   ·show pFields (f + 1) acc rest = _
    rw [pFields_s, h]
    rfl
   ·rw [List.append_nil]
    exact .pure acc rest
 | s :: r, acc, rest, h => by
   have ih := fields_ok r (acc ++ [s]) rest h
   rw [List.append_assoc] at ih
   refine .step (body := fun f => pFields f (acc ++ [s]) ((r.map fieldK).flatten ++ rest)) (fun f => ?_) ih
   show pFields (f + 1) acc (kw [118, 97, 114] :: nmT s.data.toList :: sy [59] :: ((r.map fieldK).flatten ++ rest)) = _
   rw [pFields_s, if_pos (is_kw _ _), List.tail_cons]
   simp only [expect_sy, bind_ok, word_nm]
def ptailT : List ByteArray → Toks → Toks
 | [], rest => sy [41] :: rest
 | e :: r, rest => sy [44] :: nmT e.data.toList :: ptailT r rest
theorem params_tail : ∀ (e : ByteArray) (l : List ByteArray) (rest : Toks), paramsT (e :: l) ++ sy [41] :: rest = nmT e.data.toList :: ptailT l rest
 | e, [], rest => rfl
 | e, x :: r, rest => by
   show nmT e.data.toList :: sy [44] :: (paramsT (x :: r) ++ sy [41] :: rest) = _
   rw [params_tail x r rest]
   rfl
theorem param_ok : ∀ (l acc : List ByteArray) (rest : Toks), Ok (fun f => pParam f acc (ptailT l rest)) (acc ++ l) rest
 | [], acc, rest => by
   refine .step (body := fun _ => .ok acc rest) (fun f => by rw [pParam_s]; rfl) ?_
   rw [List.append_nil]
   exact .pure acc rest
 | s :: r, acc, rest => by
   have ih := param_ok r (acc ++ [s]) rest
   rw [List.append_assoc] at ih
   refine .step (body := fun f => pParam f (acc ++ [s]) (ptailT r rest)) (fun f => ?_) ih
   rw [pParam_s, ptailT, if_pos (is_sy _ _), List.tail_cons, word_nm, bind_ok]
theorem params_ok (l : List ByteArray) (rest : Toks) : Ok (fun f => pParams f (sy [40] :: (paramsT l ++ sy [41] :: rest))) l rest := by
 cases l with
 | nil => exact .cong (q := fun _ => .ok [] rest) (fun f => rfl) (.pure _ _)
 | cons e r =>
   rw [params_tail]
   refine .cong (q := fun f => pParam f [e] (ptailT r rest)) (fun f => ?_) (param_ok r [e] rest)
   have hno : is [41] (nmT e.data.toList :: ptailT r rest) = false := by rw [is_cons]; show (_ && false) = false; rw [Bool.and_false]
   unfold pParams
   rw [expect_sy, bind_ok, hno, if_neg (by decide), word_nm, bind_ok]
theorem methods_ok : ∀ (l acc : List M) (rest : Toks), (∀ m ∈ l, validM m = true) → is [111, 110] rest = false → Ok (fun f => pMs f acc ((l.map tokM).flatten ++ rest)) (acc ++ l) rest
 | [], acc, rest, _, h => by
   refine .step (body := fun _ => .ok acc rest) (fun f => ?_) ?_
   ·show pMs (f + 1) acc rest = _
    rw [pMs_s, h]
    rfl
   ·rw [List.append_nil]
    exact .pure acc rest
 | m :: r, acc, rest, hv, h => by
   have ih := methods_ok r (acc ++ [m]) rest (fun x hx => hv x (by simp [hx])) h
   rw [List.append_assoc] at ih
   have hm := hv m (by simp)
   rw [validM, Bool.and_eq_true] at hm
   refine .step (body := fun f => (pParams f (sy [40] :: (paramsT m.params ++ sy [41] :: sy [123] :: (tokSs m.body ++ sy [125] :: ((r.map tokM).flatten ++ rest))))).bind fun p r => (pB f r).bind fun b r => pMs f (acc ++ [⟨m.name, p, b⟩]) r) (fun f => ?_) (.bind (params_ok m.params _) (.bind (rt_block m.body _ hm.2) ih))
   have e1 : ((m :: r).map tokM).flatten ++ rest = kw [111, 110] :: nmT m.name.data.toList :: sy [40] :: (paramsT m.params ++ sy [41] :: sy [123] :: (tokSs m.body ++ sy [125] :: ((r.map tokM).flatten ++ rest))) := by
    rw [List.map_cons, List.flatten_cons, tokM]
    simp
   rw [e1, pMs_s, if_pos (is_kw _ _), List.tail_cons, word_nm, bind_ok]
theorem class_ok (c : C) (rest : Toks) (h : validC c = true) : Ok (fun f => pC f (tokC c ++ rest)) c rest := by
 obtain ⟨nm, ac, fs, ms⟩ := c
 rw [validC, Bool.and_eq_true, Bool.and_eq_true, Bool.and_eq_true, List.all_eq_true, List.all_eq_true] at h
 obtain ⟨⟨⟨hn, hf⟩, ha⟩, hm⟩ := h
 have e1 : tokC ⟨nm, ac, fs, ms⟩ ++ rest = kw (if ac then [97, 99, 116, 111, 114] else [114, 101, 99, 111, 114, 100]) :: clT nm.data.toList :: sy [123] :: ((fs.map fieldK).flatten ++ ((ms.map tokM).flatten ++ sy [125] :: rest)) := by
  rw [tokC]
  simp
 have hvar : is [118, 97, 114] ((ms.map tokM).flatten ++ sy [125] :: rest) = false := by cases ms <;> rfl
 have hF := fields_ok fs [] _ hvar
 cases ac with
 | true =>
   have hM := methods_ok ms [] (sy [125] :: rest) hm rfl
   refine .cong (q := fun f => (pFields f [] ((fs.map fieldK).flatten ++ ((ms.map tokM).flatten ++ sy [125] :: rest))).bind fun fs r => (pMs f [] r).bind fun ms r => (expect [125] r).bind fun _ r => .ok ⟨nm, true, fs, ms⟩ r) (fun f => ?_) (.bind hF (.bind hM (.cong (q := fun _ => .ok ⟨nm, true, fs, ms⟩ rest) (fun _ => by simp only [expect_sy, bind_ok, List.nil_append]) (.pure _ _))))
   have e2 : tokC ⟨nm, true, fs, ms⟩ ++ rest = kw [97, 99, 116, 111, 114] :: clT nm.data.toList :: sy [123] :: ((fs.map fieldK).flatten ++ ((ms.map tokM).flatten ++ sy [125] :: rest)) := e1
   rw [e2]
   unfold pC
   rw [is_kw, if_pos rfl, List.tail_cons, bind_ok, word_cl, bind_ok, expect_sy, bind_ok]
   rfl
 | false =>
   have ha : (false || decide (ms.length = 0)) = true := ha
   rw [Bool.false_or, decide_eq_true_eq] at ha
   obtain rfl := List.eq_nil_of_length_eq_zero ha
   refine .cong (q := fun f => (pFields f [] ((fs.map fieldK).flatten ++ ((([] : List M).map tokM).flatten ++ sy [125] :: rest))).bind fun fs r => (expect [125] r).bind fun _ r => .ok ⟨nm, false, fs, []⟩ r) (fun f => ?_) (.bind hF (.cong (q := fun _ => .ok ⟨nm, false, fs, []⟩ rest) (fun _ => by simp only [List.map_nil, List.flatten_nil, expect_sy, bind_ok, List.nil_append]) (.pure _ _)))
   have e2 : tokC ⟨nm, false, fs, []⟩ ++ rest = kw [114, 101, 99, 111, 114, 100] :: clT nm.data.toList :: sy [123] :: ((fs.map fieldK).flatten ++ ((([] : List M).map tokM).flatten ++ sy [125] :: rest)) := e1
   have hno : is [97, 99, 116, 111, 114] (kw [114, 101, 99, 111, 114, 100] :: clT nm.data.toList :: sy [123] :: ((fs.map fieldK).flatten ++ ((([] : List M).map tokM).flatten ++ sy [125] :: rest))) = false := rfl
   rw [e2]
   unfold pC
   rw [hno, if_neg (by decide), expect_kw, bind_ok, word_cl, bind_ok, expect_sy, bind_ok]
   rfl
theorem prog_ok : ∀ (l acc : List C), (∀ c ∈ l, validC c = true) → Ok (fun f => pP f acc (tokP l)) (acc ++ l) []
 | [], acc, _ => by
   refine .step (body := fun _ => .ok acc []) (fun f => by rw [pP_s]; rfl) ?_
   rw [List.append_nil]
   exact .pure acc []
 | c :: r, acc, h => by
   have ih := prog_ok r (acc ++ [c]) fun x hx => h x (by simp [hx])
   rw [List.append_assoc] at ih
   have e1 : tokP (c :: r) = tokC c ++ tokP r := rfl
   rw [e1]
   refine .step (body := fun f => (pC f (tokC c ++ tokP r)).bind fun c r => pP f (acc ++ [c]) r) (fun f => ?_) (.bind (class_ok c _ (h c (by simp))) ih)
   rw [pP_s, if_neg]
   show ¬ (4 : Nat) = 0
   decide
theorem rt_prog (l : List C) (h : validP l = true) : Ok (fun f => pP f [] (tokP l)) l [] := by
 rw [validP, List.all_eq_true] at h
 exact prog_ok l [] h
end Pa
end Go.Proofs.YtdckddkalgnlpaaGreatDoor
namespace Go.Proofs.YtdckddkalgnlpaaGreatDoor
open Go.RowKit
def Inc (w w' : World) : Prop := w.heap.size ≤ w'.heap.size ∧ ∀ b o v, w.cell? ⟨b, o, none⟩ = some v → w'.cell? ⟨b, o, none⟩ = some v
theorem Inc.refl (w : World) : Inc w w := ⟨Nat.le_refl _, fun _ _ _ h => h⟩
theorem Inc.trans {a b c : World} (h : Inc a b) (h2 : Inc b c) : Inc a c := ⟨Nat.le_trans h.1 h2.1, fun b o v hv => h2.2 b o v (h.2 b o v hv)⟩
theorem CellsE.inc {w w' : World} {b o : Nat} {e : Tr.E} {a : Value} (h : CellsE w b o e a) (hb : Inc w w') : CellsE w' b o e a :=
 ⟨hb.2 _ _ _ h.1, hb.2 _ _ _ h.2.1, hb.2 _ _ _ h.2.2.1, hb.2 _ _ _ h.2.2.2.1, hb.2 _ _ _ h.2.2.2.2.1, hb.2 _ _ _ h.2.2.2.2.2⟩
theorem CellsS.inc {w w' : World} {b o : Nat} {e : Tr.S} {x y z : Value} (h : CellsS w b o e x y z) (hb : Inc w w') : CellsS w' b o e x y z :=
 ⟨hb.2 _ _ _ h.1, hb.2 _ _ _ h.2.1, hb.2 _ _ _ h.2.2.1, hb.2 _ _ _ h.2.2.2.1, hb.2 _ _ _ h.2.2.2.2⟩
theorem SlE.inc {w w' : World} {v : Value} {l : List Tr.E} (h : SlE w v l) (hb : Inc w w') : SlE w' v l := by
 induction h with
 | nil p c => exact .nil p c
 | row b o c l A hn hm hc ha ih => exact .row b o c l A hn hm (fun j e hj => ⟨(hc j e hj).1.inc hb, (hc j e hj).2⟩) (fun j e hj => ih j e hj)
theorem SlS.inc {w w' : World} {v : Value} {l : List Tr.S} (h : SlS w v l) (hb : Inc w w') : SlS w' v l := by
 induction h with
 | nil p c => exact .nil p c
 | row b o c l X Y Z hn hm hc hx hy hz ih1 ih2 => exact .row b o c l X Y Z hn hm (fun j e hj => ⟨(hc j e hj).1.inc hb, (hc j e hj).2⟩) (fun j e hj => (hx j e hj).inc hb) (fun j e hj => ih1 j e hj) (fun j e hj => ih2 j e hj)
theorem SlStr.inc {w w' : World} {v : Value} {l : List ByteArray} (h : SlStr w v l) (hb : Inc w w') : SlStr w' v l := by
 obtain ⟨p, c, e, hl, hn, hx⟩ := h
 refine ⟨p, c, e, hl, hn, fun j s hj => ?_⟩
 obtain ⟨hs, b, o, e2, h1, h2⟩ := hx j s hj
 exact ⟨hs, b, o, e2, Nat.lt_of_lt_of_le h1 hb.1, hb.2 _ _ _ h2⟩
theorem SlM.inc {w w' : World} {v : Value} {l : List Tr.M} (h : SlM w v l) (hb : Inc w w') : SlM w' v l := by
 obtain ⟨p, c, e, hl, hn, hx⟩ := h
 refine ⟨p, c, e, hl, hn, fun j s hj => ?_⟩
 obtain ⟨hs, b, o, x, y, e2, h1, h2, h3, h4⟩ := hx j s hj
 exact ⟨hs, b, o, x, y, e2, Nat.lt_of_lt_of_le h1 hb.1, ⟨hb.2 _ _ _ h2.1, hb.2 _ _ _ h2.2.1, hb.2 _ _ _ h2.2.2⟩, h3.inc hb, h4.inc hb⟩
theorem SlC.inc {w w' : World} {v : Value} {l : List Tr.C} (h : SlC w v l) (hb : Inc w w') : SlC w' v l := by
 obtain ⟨p, c, e, hl, hn, hx⟩ := h
 refine ⟨p, c, e, hl, hn, fun j s hj => ?_⟩
 obtain ⟨hs, b, o, x, y, e2, h1, h2, h3, h4⟩ := hx j s hj
 exact ⟨hs, b, o, x, y, e2, Nat.lt_of_lt_of_le h1 hb.1, ⟨hb.2 _ _ _ h2.1, hb.2 _ _ _ h2.2.1, hb.2 _ _ _ h2.2.2.1, hb.2 _ _ _ h2.2.2.2⟩, h3.inc hb, h4.inc hb⟩
def hide (S : Nat → Bool) (w : World) : World := { w with heap := w.heap.mapIdx fun i o => if S i then .cells #[] 0 (0, 0) else o }
theorem hide_size (S : Nat → Bool) (w : World) : (hide S w).heap.size = w.heap.size := by simp [hide]
theorem hide_heap {S : Nat → Bool} {w : World} {k : Nat} (h : S k = false) : (hide S w).heap[k]? = w.heap[k]? := by
 unfold hide
 rw [Array.getElem?_mapIdx, h]
 cases w.heap[k]? <;> rfl
theorem hide_cell? {S : Nat → Bool} {w : World} {b o : Nat} (h : S b = false) : (hide S w).cell? ⟨b, o, none⟩ = w.cell? ⟨b, o, none⟩ := by
 unfold World.cell?
 rw [hide_heap h]
theorem hide_cell {S : Nat → Bool} {w : World} {b o : Nat} {v : Value} (h : (hide S w).cell? ⟨b, o, none⟩ = some v) : S b = false ∧ w.cell? ⟨b, o, none⟩ = some v := by
 cases hs : S b with
 | false => rw [hide_cell? hs] at h; exact ⟨rfl, h⟩
 | true =>
   exfalso
   unfold World.cell? at h
   have : (hide S w).heap[b]? = (w.heap[b]?).map fun _ => .cells #[] 0 (0, 0) := by
    unfold hide
    rw [Array.getElem?_mapIdx, hs]
    cases w.heap[b]? <;> rfl
   simp only [this] at h
   cases hb : w.heap[b]? with
   | none => rw [hb] at h; simp at h
   | some o => rw [hb] at h; simp at h
theorem hide_inc (S : Nat → Bool) (w : World) : Inc (hide S w) w := ⟨by rw [hide_size]; exact Nat.le_refl _, fun _ _ _ h => (hide_cell h).2⟩
theorem hide_step {S S' : Nat → Bool} {w w' : World} {row : Option Nat} (hg : w.grownBy w' row) (h1 : ∀ k, row = some k → S k = true) (h2 : ∀ k, k < w.heap.size → S' k = true → S k = true) : Inc (hide S w) (hide S' w') := by
 refine ⟨by rw [hide_size, hide_size]; exact hg.size, fun b o v h => ?_⟩
 obtain ⟨hs, hc⟩ := hide_cell h
 have hlt := cell_lt' hc
 have hs' : S' b = false := by
  cases hb : S' b with
  | false => rfl
  | true => rw [h2 b hlt hb] at hs; cases hs
 rw [hide_cell? hs']
 have hb := hg.block b hlt (fun e => by rw [h1 b e.symm] at hs; cases hs)
 unfold World.cell? at hc ⊢
 rw [hb]
 exact hc
theorem hide_own {S : Nat → Bool} {w : World} {base : Nat} {e : TypeId} {size n : Nat} {v : Value} {xs : List Value} (h : w.ownsRow base e size v n xs) (hs : ∀ k, v.ownBlock = some k → S k = false) : (hide S w).ownsRow base e size v n xs := by
 refine ⟨h.1, ?_⟩
 rcases h.2 with hn | ⟨g, cap, cur, rfl, hb, hg, rest⟩
 ·exact .inl hn
 ·exact .inr ⟨g, cap, cur, rfl, hb, by rw [hide_heap (hs g rfl)]; exact hg, rest⟩
end Go.Proofs.YtdckddkalgnlpaaGreatDoor
