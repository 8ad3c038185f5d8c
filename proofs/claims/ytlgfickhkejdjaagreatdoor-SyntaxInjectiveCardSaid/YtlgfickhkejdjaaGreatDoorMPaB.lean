/-
  Several texts in one: PaRtS, PaLx, PaLxS.
-/
import Derived.Test.YtlgfickhkejdjaaGreatDoorMPaA
import Derived.Test.YtlgfickhkejdjaaGreatDoorMTrName
namespace Go.Proofs.YtlgfickhkejdjaaGreatDoor
namespace Pa
open Tr
/-- the shapes of valid statements -/
inductive FormS : S → Prop
  | set (k : Int) (nm : ByteArray) (x : E) (hk : k = 0 ∨ k = 1) (hn : varB nm = true) (hx : validE x = true) : FormS (.mk k nm [x] [] [])
  | store (nm : ByteArray) (x y : E) (hn : varB nm = true) (hx : validE x = true) (hy : validE y = true) : FormS (.mk 2 nm [x, y] [] [])
  | cond (x : E) (b l : List S) (hx : validE x = true) (hb : ∀ s ∈ b, validS s = true) (hl : ∀ s ∈ l, validS s = true) : FormS (.mk 3 ⟨#[]⟩ [x] b l)
  | loop (x : E) (b : List S) (hx : validE x = true) (hb : ∀ s ∈ b, validS s = true) : FormS (.mk 4 ⟨#[]⟩ [x] b [])
  | send (nm : ByteArray) (x : E) (l : List E) (hn : varB nm = true) (hx : validE x = true) (hl : ∀ e ∈ l, validE e = true) : FormS (.mk 5 nm (x :: l) [] [])
  | print (x : E) (hx : validE x = true) : FormS (.mk 6 ⟨#[]⟩ [x] [] [])
  | move (x y : E) (hx : validE x = true) (hy : validE y = true) : FormS (.mk 7 ⟨#[]⟩ [x, y] [] [])
  | watch (nm : ByteArray) (x y : E) (hn : varB nm = true) (hx : validE x = true) (hy : validE y = true) : FormS (.mk 8 nm [x, y] [] [])
  | ret : FormS (.mk 9 ⟨#[]⟩ [] [] [])
theorem okS_out {k : Int} {nm : ByteArray} {n nb ne : Nat} (h : k < 0 ∨ 9 < k) : okS k nm n nb ne = false := by
  unfold okS
  rw [if_neg (by omega), if_neg (by omega), if_neg (by omega), if_neg (by omega), if_neg (by omega), if_neg (by omega), if_neg (by omega), if_neg (by omega), if_neg (by omega), if_neg (by omega)]
theorem formS_of (s : S) (h : validS s = true) : FormS s := by
  obtain ⟨k, nm, x, b, l⟩ := s
  rw [validS, Bool.and_eq_true, Bool.and_eq_true, Bool.and_eq_true, validEs_all, validSs_all, validSs_all, List.all_eq_true, List.all_eq_true, List.all_eq_true] at h
  obtain ⟨⟨⟨hx, hok⟩, hb⟩, hl⟩ := h
  have hk : 0 ≤ k ∧ k ≤ 9 := by
    refine Decidable.byContradiction fun hc => ?_
    rw [okS_out (by omega)] at hok
    cases hok
  have hc : k = 0 ∨ k = 1 ∨ k = 2 ∨ k = 3 ∨ k = 4 ∨ k = 5 ∨ k = 6 ∨ k = 7 ∨ k = 8 ∨ k = 9 := by omega
  rcases hc with rfl | rfl | rfl | rfl | rfl | rfl | rfl | rfl | rfl | rfl
  · have hok : (decide (x.length = 1 ∧ b.length = 0 ∧ l.length = 0) && varB nm) = true := hok
    rw [Bool.and_eq_true, decide_eq_true_eq] at hok
    obtain ⟨⟨h1, h2, h3⟩, hn⟩ := hok
    obtain ⟨e, rfl⟩ := Sy.one_of h1
    obtain rfl := List.eq_nil_of_length_eq_zero h2
    obtain rfl := List.eq_nil_of_length_eq_zero h3
    exact .set 0 nm e (.inl rfl) hn (hx e (by simp))
  · have hok : (decide (x.length = 1 ∧ b.length = 0 ∧ l.length = 0) && varB nm) = true := hok
    rw [Bool.and_eq_true, decide_eq_true_eq] at hok
    obtain ⟨⟨h1, h2, h3⟩, hn⟩ := hok
    obtain ⟨e, rfl⟩ := Sy.one_of h1
    obtain rfl := List.eq_nil_of_length_eq_zero h2
    obtain rfl := List.eq_nil_of_length_eq_zero h3
    exact .set 1 nm e (.inr rfl) hn (hx e (by simp))
  · have hok : (decide (x.length = 2 ∧ b.length = 0 ∧ l.length = 0) && varB nm) = true := hok
    rw [Bool.and_eq_true, decide_eq_true_eq] at hok
    obtain ⟨⟨h1, h2, h3⟩, hn⟩ := hok
    obtain ⟨e, y, rfl⟩ := Sy.two_of h1
    obtain rfl := List.eq_nil_of_length_eq_zero h2
    obtain rfl := List.eq_nil_of_length_eq_zero h3
    exact .store nm e y hn (hx e (by simp)) (hx y (by simp))
  · have hok : decide (x.length = 1 ∧ nm.size = 0) = true := hok
    rw [decide_eq_true_eq] at hok
    obtain ⟨h1, h2⟩ := hok
    obtain ⟨e, rfl⟩ := Sy.one_of h1
    obtain rfl := empty_of h2
    exact .cond e b l (hx e (by simp)) hb hl
  · have hok : decide (x.length = 1 ∧ nm.size = 0 ∧ l.length = 0) = true := hok
    rw [decide_eq_true_eq] at hok
    obtain ⟨h1, h2, h3⟩ := hok
    obtain ⟨e, rfl⟩ := Sy.one_of h1
    obtain rfl := empty_of h2
    obtain rfl := List.eq_nil_of_length_eq_zero h3
    exact .loop e b (hx e (by simp)) hb
  · have hok : (decide (1 ≤ x.length ∧ b.length = 0 ∧ l.length = 0) && varB nm) = true := hok
    rw [Bool.and_eq_true, decide_eq_true_eq] at hok
    obtain ⟨⟨h1, h2, h3⟩, hn⟩ := hok
    obtain rfl := List.eq_nil_of_length_eq_zero h2
    obtain rfl := List.eq_nil_of_length_eq_zero h3
    cases x with
    | nil => simp at h1
    | cons e r => exact .send nm e r hn (hx e (by simp)) (fun y hy => hx y (by simp [hy]))
  · have hok : decide (x.length = 1 ∧ nm.size = 0 ∧ b.length = 0 ∧ l.length = 0) = true := hok
    rw [decide_eq_true_eq] at hok
    obtain ⟨h1, h2, h3, h4⟩ := hok
    obtain ⟨e, rfl⟩ := Sy.one_of h1
    obtain rfl := empty_of h2
    obtain rfl := List.eq_nil_of_length_eq_zero h3
    obtain rfl := List.eq_nil_of_length_eq_zero h4
    exact .print e (hx e (by simp))
  · have hok : decide (x.length = 2 ∧ nm.size = 0 ∧ b.length = 0 ∧ l.length = 0) = true := hok
    rw [decide_eq_true_eq] at hok
    obtain ⟨h1, h2, h3, h4⟩ := hok
    obtain ⟨e, y, rfl⟩ := Sy.two_of h1
    obtain rfl := empty_of h2
    obtain rfl := List.eq_nil_of_length_eq_zero h3
    obtain rfl := List.eq_nil_of_length_eq_zero h4
    exact .move e y (hx e (by simp)) (hx y (by simp))
  · have hok : (decide (x.length = 2 ∧ b.length = 0 ∧ l.length = 0) && varB nm) = true := hok
    rw [Bool.and_eq_true, decide_eq_true_eq] at hok
    obtain ⟨⟨h1, h2, h3⟩, hn⟩ := hok
    obtain ⟨e, y, rfl⟩ := Sy.two_of h1
    obtain rfl := List.eq_nil_of_length_eq_zero h2
    obtain rfl := List.eq_nil_of_length_eq_zero h3
    exact .watch nm e y hn (hx e (by simp)) (hx y (by simp))
  · have hok : decide (x.length = 0 ∧ nm.size = 0 ∧ b.length = 0 ∧ l.length = 0) = true := hok
    rw [decide_eq_true_eq] at hok
    obtain ⟨h1, h2, h3, h4⟩ := hok
    obtain rfl := List.eq_nil_of_length_eq_zero h1
    obtain rfl := empty_of h2
    obtain rfl := List.eq_nil_of_length_eq_zero h3
    obtain rfl := List.eq_nil_of_length_eq_zero h4
    exact .ret

/-! ### tokens -/
/-- the tokens of a statement without a block, without the semicolon -/
def simpleT (k : Int) (nm : Bytes) (ts : List (Nat × Toks)) : Toks :=
  if k = 0 then kw [108, 101, 116] :: nmT nm :: sy [61] :: (ts.headD (9, [])).2
  else if k = 1 then nmT nm :: sy [61] :: (ts.headD (9, [])).2
  else if k = 2 then parT 9 (ts.headD (9, [])) ++ sy [46] :: nmT nm :: sy [61] :: ((ts.drop 1).headD (9, [])).2
  else if k = 5 then kw [115, 101, 110, 100] :: (parT 8 (ts.headD (9, [])) ++ sy [46] :: nmT nm :: sy [40] :: (commasT ((ts.drop 1).map Prod.snd) ++ [sy [41]]))
  else if k = 6 then kw [112, 114, 105, 110, 116] :: (ts.headD (9, [])).2
  else if k = 7 then kw [109, 111, 118, 101] :: ((ts.headD (9, [])).2 ++ kw [116, 111] :: ((ts.drop 1).headD (9, [])).2)
  else if k = 8 then kw [119, 97, 116, 99, 104] :: ((ts.headD (9, [])).2 ++ kw [98, 121] :: nmT nm :: sy [40] :: (((ts.drop 1).headD (9, [])).2 ++ [sy [41]]))
  else [kw [114, 101, 116, 117, 114, 110]]
def stmtK (k : Int) (nm : Bytes) (ts : List (Nat × Toks)) (body els : Toks) (other : Bool) : Toks :=
  if k = 3 then kw [105, 102] :: ((ts.headD (9, [])).2 ++ sy [123] :: (body ++ sy [125] :: if other then kw [101, 108, 115, 101] :: sy [123] :: (els ++ [sy [125]]) else []))
  else if k = 4 then kw [119, 104, 105, 108, 101] :: ((ts.headD (9, [])).2 ++ sy [123] :: (body ++ [sy [125]]))
  else simpleT k nm ts ++ [sy [59]]
mutual
def tokS : S → Toks
  | .mk k nm x b l => stmtK k nm.data.toList (tokss x) (tokSs b) (tokSs l) (decide (0 < l.length))
def tokSs : List S → Toks
  | [] => []
  | s :: r => tokS s ++ tokSs r
end
def paramsT (l : List ByteArray) : Toks := commasT (l.map fun p => [nmT p.data.toList])
def tokM (m : M) : Toks := kw [111, 110] :: nmT m.name.data.toList :: sy [40] :: (paramsT m.params ++ sy [41] :: sy [123] :: (tokSs m.body ++ [sy [125]]))
def fieldK (s : ByteArray) : Toks := [kw [118, 97, 114], nmT s.data.toList, sy [59]]
def tokC (c : C) : Toks := kw (if c.actor then [97, 99, 116, 111, 114] else [114, 101, 99, 111, 114, 100]) :: clT c.name.data.toList :: sy [123] :: ((c.fields.map fieldK).flatten ++ ((c.methods.map tokM).flatten ++ [sy [125]]))
def tokP (l : List C) : Toks := (l.map tokC).flatten

theorem level_le9 (e : E) : Sy.level e ≤ 9 := by
  obtain ⟨k, o, i, nm, a, l⟩ := e
  show Sy.levelK k o a ≤ 9
  unfold Sy.levelK Sy.opLevel
  repeat' split
  all_goals omega

/-! ### the first token of an operand -/
def First (ts : Toks) : Prop := ∃ x r, ts = x :: r ∧ (x.kind = 2 → r = []) ∧ (x.kind = 1 ∨ x.kind = 2 ∨ x.text = [110, 105, 108] ∨ x.text = [116, 104, 105, 115] ∨ x.text = [110, 101, 119] ∨ x.text = [40])
theorem first9 (e : E) (h : validE e = true) : First (argT 9 e) := by
  rcases Nat.lt_or_ge (Sy.level e) 9 with hl | hl
  · rw [argT_out hl]; exact ⟨_, _, rfl, fun h => absurd h (by decide), .inr (.inr (.inr (.inr (.inr rfl))))⟩
  · rw [argT_in hl]
    cases form_of e h with
    | num m _ => rw [toks_num]; exact ⟨_, _, rfl, fun h => absurd h (show ¬ 1 = 2 by decide), .inl rfl⟩
    | nil => rw [toks_leaf1]; exact ⟨_, _, rfl, fun _ => rfl, .inr (.inr (.inl rfl))⟩
    | this => rw [toks_leaf2]; exact ⟨_, _, rfl, fun _ => rfl, .inr (.inr (.inr (.inl rfl)))⟩
    | var nm _ => rw [toks_var]; exact ⟨_, _, rfl, fun _ => rfl, .inr (.inl rfl)⟩
    | fld nm x _ _ => exact absurd hl (by show ¬ 9 ≤ 8; decide)
    | new nm l _ _ => rw [toks_new]; exact ⟨_, _, rfl, fun h => absurd h (show ¬ 4 = 2 by decide), .inr (.inr (.inr (.inr (.inl rfl))))⟩
    | newAt nm l y _ _ _ => exact absurd hl (by show ¬ 9 ≤ 7; decide)
    | un k x hk _ =>
      rcases hk with rfl | rfl | rfl | rfl
      · exact absurd hl (by show ¬ 9 ≤ 7; decide)
      · exact absurd hl (by show ¬ 9 ≤ 7; decide)
      · exact absurd hl (by show ¬ 9 ≤ 7; decide)
      · exact absurd hl (by show ¬ 9 ≤ 3; decide)
    | bin o x y h0 h1 _ _ =>
      have : Sy.level (bin o x y) = Sy.opLevel o := rfl
      have := op_level o h0 h1
      omega
theorem First.is {ts : Toks} (h : First ts) (t : Bytes) (ht : t ∉ [[110, 105, 108], [116, 104, 105, 115], [110, 101, 119], [40]]) (rest : Toks) : is t (ts ++ rest) = false := by
  obtain ⟨x, r, rfl, _, h⟩ := h
  rw [List.cons_append, is_cons]
  rcases h with h | h | h | h | h | h
  · rw [h]; simp
  · rw [h]; simp
  all_goals
    rw [h, Bool.and_eq_false_iff]
    refine .inl (beq_eq_false_iff_ne.2 fun hc => ht ?_)
    rw [← hc]
    simp

/-! ### statements -/
theorem pS_s (f : Nat) (ts : Toks) : pS (f + 1) ts =
    if is [105, 102] ts then (pE f 0 ts.tail).bind fun e r => (pB f r).bind fun b r =>
      if is [101, 108, 115, 101] r then (pB f r.tail).bind fun l r => .ok (.mk 3 ⟨#[]⟩ [e] b l) r else .ok (.mk 3 ⟨#[]⟩ [e] b []) r
    else if is [119, 104, 105, 108, 101] ts then (pE f 0 ts.tail).bind fun e r => (pB f r).bind fun b r => .ok (.mk 4 ⟨#[]⟩ [e] b []) r
    else (pSimple f ts).bind fun s r => (expect [59] r).bind fun _ r => .ok s r := by rw [pS]
theorem pB_s (f : Nat) (ts : Toks) : pB (f + 1) ts = (expect [123] ts).bind fun _ r => pSs f [] r := by rw [pB]
theorem pSs_s (f : Nat) (l : List S) (ts : Toks) : pSs (f + 1) l ts = if is [125] ts then .ok l ts.tail else (pS f ts).bind fun s r => pSs f (l ++ [s]) r := by rw [pSs]
theorem pSend_s (f : Nat) (a : E) (n : ByteArray) (ts : Toks) : pSend (f + 1) a n ts = if is [46] ts then (word 2 ts.tail).bind fun m r => pSend f (fld n a) m r else (pA f ts).bind fun l r => .ok (.mk 5 n (a :: l) [] []) r := by rw [pSend]
theorem Ok.cong {α : Type} {p q : Nat → R α} {a : α} {r : Toks} (h : ∀ f, p f = q f) (hb : Ok q a r) : Ok p a r := by
  obtain ⟨F, hb⟩ := hb
  exact ⟨F, fun f hf => (h f).trans (hb f hf)⟩
theorem Reach.cong {α : Type} {p q s : Nat → R α} (h : ∀ f, p f = q f) (hb : Reach q s) : Reach p s := by
  obtain ⟨F, D, hb⟩ := hb
  exact ⟨F, D, fun f hf => by rw [h]; exact hb f hf⟩
theorem bind_ok {α β : Type} (a : α) (r : Toks) (f : α → Toks → R β) : (R.ok a r).bind f = f a r := rfl
theorem expect_sy (t : Bytes) (r : Toks) : expect t (sy t :: r) = .ok () r := by
  unfold expect
  rw [if_pos (by rw [is_cons]; show (t == t && true) = true; simp)]
  rfl
theorem expect_kw (t : Bytes) (r : Toks) : expect t (kw t :: r) = .ok () r := by
  unfold expect
  rw [if_pos (by rw [is_cons]; show (t == t && true) = true; simp)]
  rfl
theorem is_kw (t : Bytes) (r : Toks) : is t (kw t :: r) = true := by rw [is_cons]; show (t == t && true) = true; simp
theorem is_sy (t : Bytes) (r : Toks) : is t (sy t :: r) = true := by rw [is_cons]; show (t == t && true) = true; simp
theorem whole {e : E} (h : RtE e) {rest : Toks} (hs : Stop 0 rest) : Ok (fun f => pE f 0 (toks e ++ rest)) e rest := h.pe 0 rest (by omega) (level_pos e) hs
theorem set_ok (k : Int) (nm : ByteArray) (x : E) (h : RtE x) {rest : Toks} (hs : Stop 0 rest) : Ok (fun f => pSet f k (nmT nm.data.toList :: sy [61] :: (toks x ++ rest))) (.mk k nm [x] [] []) rest := by
  refine .cong (q := fun f => (pE f 0 (toks x ++ rest)).bind fun e r => .ok (.mk k nm [e] [] []) r) (fun f => ?_) (.bind (whole h hs) (.pure _ _))
  show (word 2 (nmT nm.data.toList :: sy [61] :: (toks x ++ rest))).bind _ = _
  rw [word_nm]
  rfl
/-- the target of a message and the name behind it -/
theorem target_reach : ∀ (n : Nat) (e : E), Sy.sizeE e ≤ n → validE e = true → ∀ (nm : ByteArray) (rest : Toks),
    Reach (fun f => (pO f (argT 8 e ++ sy [46] :: nmT nm.data.toList :: rest)).bind fun a r => (expect [46] r).bind fun _ r => (word 2 r).bind fun m r => pSend f a m r) (fun g => pSend g e nm rest)
  | 0, e, h, _ => by have : 0 < Sy.sizeE e := by (cases e; rw [Sy.sizeE]; omega)
                     omega
  | n + 1, e, hsz, hv => by
    intro nm rest
    have hr := rt_expr e hv
    have hfin : ∀ f, ((expect [46] (sy [46] :: nmT nm.data.toList :: rest)).bind fun _ r => (word 2 r).bind fun m r => pSend f e m r) = pSend f e nm rest := fun f => by
      show (word 2 (nmT nm.data.toList :: rest)).bind _ = _
      rw [word_nm]
      rfl
    have hdir : Ok (fun f => pO f (argT 8 e ++ sy [46] :: nmT nm.data.toList :: rest)) e (sy [46] :: nmT nm.data.toList :: rest) → Reach (fun f => (pO f (argT 8 e ++ sy [46] :: nmT nm.data.toList :: rest)).bind fun a r => (expect [46] r).bind fun _ r => (word 2 r).bind fun m r => pSend f a m r) (fun g => pSend g e nm rest) := fun h =>
      (Reach.bind h).trans (Reach.cong hfin ⟨0, 0, fun f _ => ⟨f, Nat.le_refl _, rfl⟩⟩)
    rcases Nat.lt_or_ge (Sy.level e) 8 with hl | hl
    · refine hdir ?_
      rw [argT_out hl]
      exact wrap hr _
    · by_cases h9 : Sy.level e = 9
      · refine hdir ?_
        rw [argT_in hl]
        exact hr.po _ h9 rfl
      · rw [argT_in hl]
        cases form_of e hv with
        | fld m x hm hx =>
          rw [toks_fld, List.append_assoc]
          refine (target_reach n x (by have := size_args (k := 4) (o := 0) (i := 0) (nm := m) (a := false) (l := [x]) (x := x) (by simp); unfold fld at hsz; omega) hx m (sy [46] :: nmT nm.data.toList :: rest)).trans (.step fun f => ?_)
          rw [pSend_s, if_pos (show is [46] (sy [46] :: nmT nm.data.toList :: rest) = true from rfl)]
          show (word 2 (nmT nm.data.toList :: rest)).bind _ = _
          rw [word_nm]
          rfl
        | num m _ => exact absurd (show Sy.level (num m) = 9 from rfl) h9
        | nil => exact absurd (show Sy.level (leaf 1) = 9 from rfl) h9
        | this => exact absurd (show Sy.level (leaf 2) = 9 from rfl) h9
        | var nm _ => exact absurd (show Sy.level (var nm) = 9 from rfl) h9
        | new nm l _ _ => exact absurd (show Sy.level (new nm false l) = 9 from rfl) h9
        | newAt nm l y _ _ _ => exact absurd hl (by show ¬ 8 ≤ 7; decide)
        | un k x hk _ =>
          rcases hk with rfl | rfl | rfl | rfl
          · exact absurd hl (by show ¬ 8 ≤ 7; decide)
          · exact absurd hl (by show ¬ 8 ≤ 7; decide)
          · exact absurd hl (by show ¬ 8 ≤ 7; decide)
          · exact absurd hl (by show ¬ 8 ≤ 3; decide)
        | bin o x y h0 h1 _ _ =>
          have : Sy.level (bin o x y) = Sy.opLevel o := rfl
          have := op_level o h0 h1
          omega
structure RtS (s : S) : Prop where
  ok : ∀ rest, is [101, 108, 115, 101] rest = false → Ok (fun f => pS f (tokS s ++ rest)) s rest
  cl : ∀ rest, is [125] (tokS s ++ rest) = false
  el : ∀ rest, is [101, 108, 115, 101] (tokS s ++ rest) = false
theorem stop_semi (rest : Toks) : Stop 0 (sy [59] :: rest) := stop_sym _ _ (by decide)
theorem stop_brace (rest : Toks) : Stop 0 (sy [123] :: rest) := stop_sym _ _ (by decide)
theorem stop_kw {t : Bytes} (h : t ∉ [[46], [97, 116], [43], [45], [42], [47], [37], [61, 61], [33, 61], [60], [60, 61], [62], [62, 61], [97, 110, 100], [111, 114]]) (rest : Toks) : Stop 0 (kw t :: rest) := stop_sym _ _ h
/-- a statement without a block -/
theorem rt_simple {s : S} {ts : Toks} (ht : tokS s = ts ++ [sy [59]]) (h1 : ∀ rest, is [105, 102] (ts ++ rest) = false) (h2 : ∀ rest, is [119, 104, 105, 108, 101] (ts ++ rest) = false) (h3 : ∀ rest, is [125] (ts ++ rest) = false) (h4 : ∀ rest, is [101, 108, 115, 101] (ts ++ rest) = false)
    (hok : ∀ rest, Ok (fun f => pSimple f (ts ++ sy [59] :: rest)) s (sy [59] :: rest)) : RtS s := by
  refine ⟨fun rest _ => ?_, fun rest => by rw [ht, List.append_assoc]; exact h3 _, fun rest => by rw [ht, List.append_assoc]; exact h4 _⟩
  rw [ht, List.append_assoc]
  refine .step (body := fun f => (pSimple f (ts ++ sy [59] :: rest)).bind fun s r => (expect [59] r).bind fun _ r => .ok s r) (fun f => ?_) (.bind (hok rest) (.pure _ _))
  rw [pS_s]
  show (if is [105, 102] (ts ++ sy [59] :: rest) = true then _ else if is [119, 104, 105, 108, 101] (ts ++ sy [59] :: rest) = true then _ else _) = _
  rw [h1, h2]
  rfl
theorem ss_ok : ∀ (l acc : List S) (rest : Toks), (∀ s ∈ l, RtS s) → Ok (fun f => pSs f acc (tokSs l ++ sy [125] :: rest)) (acc ++ l) rest
  | [], acc, rest, _ => by
    refine .step (body := fun _ => .ok acc rest) (fun f => by rw [pSs_s]; rfl) ?_
    rw [List.append_nil]
    exact .pure acc rest
  | s :: r, acc, rest, h => by
    have ih := ss_ok r (acc ++ [s]) rest fun x hx => h x (by simp [hx])
    rw [List.append_assoc] at ih
    have hs := h s (by simp)
    rw [tokSs, List.append_assoc]
    refine .step (body := fun f => (pS f (tokS s ++ (tokSs r ++ sy [125] :: rest))).bind fun s r => pSs f (acc ++ [s]) r) (fun f => ?_) (.bind (hs.ok _ ?_) ih)
    · rw [pSs_s, if_neg (by rw [hs.cl]; decide)]
    · cases r with
      | nil => rw [tokSs]; rfl
      | cons s2 r2 =>
        rw [tokSs, List.append_assoc]
        exact (h s2 (by simp)).el _
theorem block_ok (l : List S) (rest : Toks) (h : ∀ s ∈ l, RtS s) : Ok (fun f => pB f (sy [123] :: (tokSs l ++ sy [125] :: rest))) l rest :=
  .step (body := fun f => pSs f [] (tokSs l ++ sy [125] :: rest)) (fun f => by rw [pB_s]; rfl) (ss_ok l [] rest h)
theorem rt_set0 (nm : ByteArray) (x : E) (h : RtE x) : RtS (.mk 0 nm [x] [] []) := by
  refine rt_simple (ts := kw [108, 101, 116] :: nmT nm.data.toList :: sy [61] :: toks x) (by rw [tokS, tokss, tokss, tokSs]; rfl) (fun _ => rfl) (fun _ => rfl) (fun _ => rfl) (fun _ => rfl) fun rest => ?_
  exact .cong (q := fun f => pSet f 0 (nmT nm.data.toList :: sy [61] :: (toks x ++ sy [59] :: rest))) (fun f => rfl) (set_ok 0 nm x h (stop_semi rest))
theorem pS_set1 (f : Nat) (nm : Bytes) (r : Toks) : pSimple f (nmT nm :: sy [61] :: r) = pSet f 1 (nmT nm :: sy [61] :: r) := by
  have hno : ∀ t, is t (nmT nm :: sy [61] :: r) = false := fun t => by rw [is_cons]; show (_ && false) = false; rw [Bool.and_false]
  unfold pSimple
  rw [hno, hno, hno, hno, hno, hno]
  rfl
theorem rt_set1 (nm : ByteArray) (x : E) (h : RtE x) : RtS (.mk 1 nm [x] [] []) := by
  have hno : ∀ t r, is t (nmT nm.data.toList :: r) = false := fun t r => by rw [is_cons]; show (_ && false) = false; rw [Bool.and_false]
  refine rt_simple (ts := nmT nm.data.toList :: sy [61] :: toks x) (by rw [tokS, tokss, tokss, tokSs]; rfl) (fun _ => hno _ _) (fun _ => hno _ _) (fun _ => hno _ _) (fun _ => hno _ _) fun rest => ?_
  exact .cong (q := fun f => pSet f 1 (nmT nm.data.toList :: sy [61] :: (toks x ++ sy [59] :: rest))) (fun f => pS_set1 f _ _) (set_ok 1 nm x h (stop_semi rest))
theorem rt_store (nm : ByteArray) (x y : E) (hv : validE x = true) (h : RtE x) (hy : RtE y) : RtS (.mk 2 nm [x, y] [] []) := by
  have hf := first9 x hv
  refine rt_simple (ts := argT 9 x ++ sy [46] :: nmT nm.data.toList :: sy [61] :: toks y) (by rw [tokS, tokss, tokss, tokss, tokSs]; rfl) (fun _ => by rw [List.append_assoc]; exact hf.is _ (by decide) _) (fun _ => by rw [List.append_assoc]; exact hf.is _ (by decide) _) (fun _ => by rw [List.append_assoc]; exact hf.is _ (by decide) _) (fun _ => by rw [List.append_assoc]; exact hf.is _ (by decide) _) fun rest => ?_
  rw [List.append_assoc]
  have hgo : ∀ f, pSimple f (argT 9 x ++ (sy [46] :: nmT nm.data.toList :: sy [61] :: toks y ++ sy [59] :: rest)) = (pO (f + 1) (argT 9 x ++ (sy [46] :: nmT nm.data.toList :: sy [61] :: toks y ++ sy [59] :: rest))).bind fun a r => (expect [46] r).bind fun _ r => (word 2 r).bind fun n r => (expect [61] r).bind fun _ r => (pE f 0 r).bind fun b r => .ok (.mk 2 n [a, b] [] []) r := fun f => by
    unfold pSimple
    rw [hf.is _ (by decide), hf.is _ (by decide), hf.is _ (by decide), hf.is _ (by decide), hf.is _ (by decide), hf.is _ (by decide)]
    have hc : ¬ (((argT 9 x ++ (sy [46] :: nmT nm.data.toList :: sy [61] :: toks y ++ sy [59] :: rest)).headD default).kind = 2 ∧ is [61] (argT 9 x ++ (sy [46] :: nmT nm.data.toList :: sy [61] :: toks y ++ sy [59] :: rest)).tail = true) := by
      rintro ⟨h2, h3⟩
      obtain ⟨t, r, e, ht, _⟩ := hf
      rw [e] at h2 h3
      have hr := ht h2
      rw [hr] at h3
      exact absurd h3 (show ¬ false = true by decide)
    rw [if_neg (by decide), if_neg (by decide), if_neg (by decide), if_neg (by decide), if_neg (by decide), if_neg (by decide), if_neg hc]
  refine .cong hgo ?_
  have hO : Ok (fun f => pO f (argT 9 x ++ (sy [46] :: nmT nm.data.toList :: sy [61] :: toks y ++ sy [59] :: rest))) x (sy [46] :: nmT nm.data.toList :: sy [61] :: (toks y ++ sy [59] :: rest)) := by
    rcases Nat.lt_or_ge (Sy.level x) 9 with hl | hl
    · rw [argT_out hl]; exact wrap h _
    · rw [argT_in hl]; exact h.po _ (by have := (level_le9 x); omega) rfl
  have hO : Ok (fun f => pO (f + 1) (argT 9 x ++ (sy [46] :: nmT nm.data.toList :: sy [61] :: toks y ++ sy [59] :: rest))) x (sy [46] :: nmT nm.data.toList :: sy [61] :: (toks y ++ sy [59] :: rest)) := by
    obtain ⟨F, h⟩ := hO
    exact ⟨F, fun f hf => h (f + 1) (by omega)⟩
  refine .bind hO (.cong (q := fun f => (pE f 0 (toks y ++ sy [59] :: rest)).bind fun b r => .ok (.mk 2 nm [x, b] [] []) r) (fun f => ?_) (.bind (whole hy (stop_semi rest)) (.pure _ _)))
  simp only [expect_sy, bind_ok, word_nm]
theorem rt_send (nm : ByteArray) (x : E) (l : List E) (hv : validE x = true) (h : ∀ e ∈ l, RtE e) : RtS (.mk 5 nm (x :: l) [] []) := by
  have hts : tokS (.mk 5 nm (x :: l) [] []) = (kw [115, 101, 110, 100] :: (argT 8 x ++ sy [46] :: nmT nm.data.toList :: sy [40] :: (commasT (l.map toks) ++ [sy [41]]))) ++ [sy [59]] := by
    rw [tokS, tokss, tokss_map, tokSs]
    show kw [115, 101, 110, 100] :: (argT 8 x ++ sy [46] :: nmT nm.data.toList :: sy [40] :: (commasT ((l.map fun e => (Sy.level e, toks e)).map Prod.snd) ++ [sy [41]])) ++ [sy [59]] = _
    rw [List.map_map]
    rfl
  refine rt_simple hts (fun _ => rfl) (fun _ => rfl) (fun _ => rfl) (fun _ => rfl) fun rest => ?_
  have h1 : ∀ f, pSimple f (kw [115, 101, 110, 100] :: (argT 8 x ++ sy [46] :: nmT nm.data.toList :: sy [40] :: (commasT (l.map toks) ++ [sy [41]])) ++ sy [59] :: rest) =
      (pO f (argT 8 x ++ sy [46] :: nmT nm.data.toList :: sy [40] :: (commasT (l.map toks) ++ sy [41] :: sy [59] :: rest))).bind fun a r => (expect [46] r).bind fun _ r => (word 2 r).bind fun n r => pSend f a n r := fun f => by
    rw [List.cons_append, List.append_assoc, List.cons_append, List.cons_append, List.cons_append, List.append_assoc]
    rfl
  refine .cong h1 ((target_reach _ x (Nat.le_refl _) hv nm (sy [40] :: (commasT (l.map toks) ++ sy [41] :: sy [59] :: rest))).ok ?_)
  exact .step (body := fun f => (pA f (sy [40] :: (commasT (l.map toks) ++ sy [41] :: sy [59] :: rest))).bind fun l r => .ok (.mk 5 nm (x :: l) [] []) r) (fun f => by rw [pSend_s]; rfl) (.bind (args_ok l _ h) (.pure _ _))
theorem rt_print (x : E) (h : RtE x) : RtS (.mk 6 ⟨#[]⟩ [x] [] []) := by
  refine rt_simple (ts := kw [112, 114, 105, 110, 116] :: toks x) (by rw [tokS, tokss, tokss, tokSs]; rfl) (fun _ => rfl) (fun _ => rfl) (fun _ => rfl) (fun _ => rfl) fun rest => ?_
  exact .cong (q := fun f => (pE f 0 (toks x ++ sy [59] :: rest)).bind fun e r => .ok (.mk 6 ⟨#[]⟩ [e] [] []) r) (fun f => rfl) (.bind (whole h (stop_semi rest)) (.pure _ _))
theorem rt_move (x y : E) (h : RtE x) (hy : RtE y) : RtS (.mk 7 ⟨#[]⟩ [x, y] [] []) := by
  refine rt_simple (ts := kw [109, 111, 118, 101] :: (toks x ++ kw [116, 111] :: toks y)) (by rw [tokS, tokss, tokss, tokss, tokSs]; rfl) (fun _ => rfl) (fun _ => rfl) (fun _ => rfl) (fun _ => rfl) fun rest => ?_
  refine .cong (q := fun f => (pE f 0 (toks x ++ kw [116, 111] :: (toks y ++ sy [59] :: rest))).bind fun a r => (expect [116, 111] r).bind fun _ r => (pE f 0 r).bind fun b r => .ok (.mk 7 ⟨#[]⟩ [a, b] [] []) r) (fun f => ?_) (.bind (whole h (stop_kw (by decide) _)) ?_)
  · rw [List.cons_append, List.append_assoc]; rfl
  · exact .cong (q := fun f => (pE f 0 (toks y ++ sy [59] :: rest)).bind fun b r => .ok (.mk 7 ⟨#[]⟩ [x, b] [] []) r) (fun f => rfl) (.bind (whole hy (stop_semi rest)) (.pure _ _))
theorem rt_watch (nm : ByteArray) (x y : E) (h : RtE x) (hy : RtE y) : RtS (.mk 8 nm [x, y] [] []) := by
  refine rt_simple (ts := kw [119, 97, 116, 99, 104] :: (toks x ++ kw [98, 121] :: nmT nm.data.toList :: sy [40] :: (toks y ++ [sy [41]]))) (by rw [tokS, tokss, tokss, tokss, tokSs]; rfl) (fun _ => rfl) (fun _ => rfl) (fun _ => rfl) (fun _ => rfl) fun rest => ?_
  refine .cong (q := fun f => (pE f 0 (toks x ++ kw [98, 121] :: nmT nm.data.toList :: sy [40] :: (toks y ++ sy [41] :: sy [59] :: rest))).bind fun a r => (expect [98, 121] r).bind fun _ r => (word 2 r).bind fun n r => (expect [40] r).bind fun _ r => (pE f 0 r).bind fun b r => (expect [41] r).bind fun _ r => .ok (.mk 8 n [a, b] [] []) r) (fun f => ?_) (.bind (whole h (stop_kw (by decide) _)) ?_)
  · rw [List.cons_append, List.append_assoc, List.cons_append, List.cons_append, List.cons_append, List.append_assoc]; rfl
  · refine .cong (q := fun f => (pE f 0 (toks y ++ sy [41] :: sy [59] :: rest)).bind fun b r => (expect [41] r).bind fun _ r => .ok (.mk 8 nm [x, b] [] []) r) (fun f => ?_) (.bind (whole hy (stop_close _)) (.cong (q := fun _ => .ok (.mk 8 nm [x, y] [] []) (sy [59] :: rest)) (fun _ => by simp only [expect_sy, bind_ok]) (.pure _ _)))
    simp only [expect_sy, expect_kw, bind_ok, word_nm]
theorem rt_ret : RtS (.mk 9 ⟨#[]⟩ [] [] []) := by
  refine rt_simple (ts := [kw [114, 101, 116, 117, 114, 110]]) (by rw [tokS, tokss, tokSs]; rfl) (fun _ => rfl) (fun _ => rfl) (fun _ => rfl) (fun _ => rfl) fun rest => ?_
  exact .cong (q := fun _ => .ok (.mk 9 ⟨#[]⟩ [] [] []) (sy [59] :: rest)) (fun f => rfl) (.pure _ _)
theorem rt_loop (x : E) (b : List S) (h : RtE x) (hb : ∀ s ∈ b, RtS s) : RtS (.mk 4 ⟨#[]⟩ [x] b []) := by
  have ht : ∀ rest, tokS (.mk 4 ⟨#[]⟩ [x] b []) ++ rest = kw [119, 104, 105, 108, 101] :: (toks x ++ sy [123] :: (tokSs b ++ sy [125] :: rest)) := fun rest => by
    rw [tokS, tokss, tokss, tokSs]
    show kw [119, 104, 105, 108, 101] :: (toks x ++ sy [123] :: (tokSs b ++ [sy [125]])) ++ rest = _
    rw [List.cons_append, List.append_assoc, List.cons_append, List.append_assoc]
    rfl
  refine ⟨fun rest _ => ?_, fun rest => by rw [ht]; rfl, fun rest => by rw [ht]; rfl⟩
  rw [ht]
  exact .step (body := fun f => (pE f 0 (toks x ++ sy [123] :: (tokSs b ++ sy [125] :: rest))).bind fun e r => (pB f r).bind fun b r => .ok (.mk 4 ⟨#[]⟩ [e] b []) r) (fun f => by rw [pS_s]; rfl) (.bind (whole h (stop_brace _)) (.bind (block_ok b rest hb) (.pure _ _)))
theorem rt_cond (x : E) (b l : List S) (h : RtE x) (hb : ∀ s ∈ b, RtS s) (hl : ∀ s ∈ l, RtS s) : RtS (.mk 3 ⟨#[]⟩ [x] b l) := by
  cases l with
  | nil =>
    have ht : ∀ rest, tokS (.mk 3 ⟨#[]⟩ [x] b []) ++ rest = kw [105, 102] :: (toks x ++ sy [123] :: (tokSs b ++ sy [125] :: rest)) := fun rest => by
      rw [tokS, tokss, tokss, tokSs]
      show kw [105, 102] :: (toks x ++ sy [123] :: (tokSs b ++ [sy [125]])) ++ rest = _
      rw [List.cons_append, List.append_assoc, List.cons_append, List.append_assoc]
      rfl
    refine ⟨fun rest he => ?_, fun rest => by rw [ht]; rfl, fun rest => by rw [ht]; rfl⟩
    rw [ht]
    refine .step (body := fun f => (pE f 0 (toks x ++ sy [123] :: (tokSs b ++ sy [125] :: rest))).bind fun e r => (pB f r).bind fun b r => if is [101, 108, 115, 101] r then (pB f r.tail).bind fun l r => .ok (.mk 3 ⟨#[]⟩ [e] b l) r else .ok (.mk 3 ⟨#[]⟩ [e] b []) r) (fun f => by rw [pS_s]; rfl) (.bind (whole h (stop_brace _)) (.bind (block_ok b rest hb) ?_))
    exact .cong (q := fun _ => .ok (.mk 3 ⟨#[]⟩ [x] b []) rest) (fun f => by rw [he]; rfl) (.pure _ _)
  | cons s r =>
    have ht : ∀ rest, tokS (.mk 3 ⟨#[]⟩ [x] b (s :: r)) ++ rest = kw [105, 102] :: (toks x ++ sy [123] :: (tokSs b ++ sy [125] :: kw [101, 108, 115, 101] :: sy [123] :: (tokSs (s :: r) ++ sy [125] :: rest))) := fun rest => by
      rw [tokS, tokss, tokss]
      show kw [105, 102] :: (toks x ++ sy [123] :: (tokSs b ++ sy [125] :: if decide (0 < (s :: r).length) then kw [101, 108, 115, 101] :: sy [123] :: (tokSs (s :: r) ++ [sy [125]]) else [])) ++ rest = _
      rw [if_pos (by simp), List.cons_append, List.append_assoc, List.cons_append, List.append_assoc, List.cons_append, List.cons_append, List.cons_append, List.append_assoc]
      rfl
    refine ⟨fun rest he => ?_, fun rest => by rw [ht]; rfl, fun rest => by rw [ht]; rfl⟩
    rw [ht]
    refine .step (body := fun f => (pE f 0 (toks x ++ sy [123] :: (tokSs b ++ sy [125] :: kw [101, 108, 115, 101] :: sy [123] :: (tokSs (s :: r) ++ sy [125] :: rest)))).bind fun e r => (pB f r).bind fun b r => if is [101, 108, 115, 101] r then (pB f r.tail).bind fun l r => .ok (.mk 3 ⟨#[]⟩ [e] b l) r else .ok (.mk 3 ⟨#[]⟩ [e] b []) r) (fun f => by rw [pS_s]; rfl) (.bind (whole h (stop_brace _)) (.bind (block_ok b _ hb) ?_))
    exact .cong (q := fun f => (pB f (sy [123] :: (tokSs (s :: r) ++ sy [125] :: rest))).bind fun l r => .ok (.mk 3 ⟨#[]⟩ [x] b l) r) (fun f => rfl) (.bind (block_ok (s :: r) rest hl) (.pure _ _))
theorem size_in {s : S} : ∀ {l : List S}, s ∈ l → Sy.sizeS s ≤ Sy.sizeSs l
  | x :: r, h => by
    rw [Sy.sizeSs]
    rcases List.mem_cons.1 h with rfl | h
    · omega
    · have := size_in h; omega
theorem rtS_all : ∀ (n : Nat) (s : S), Sy.sizeS s ≤ n → validS s = true → RtS s
  | 0, s, h, _ => by have : 0 < Sy.sizeS s := by (cases s; rw [Sy.sizeS]; omega)
                     omega
  | n + 1, s, h, hv => by
    have key : ∀ {k : Int} {nm : ByteArray} {x : List E} {b l : List S}, s = .mk k nm x b l → (∀ t ∈ b, validS t = true) → (∀ t ∈ l, validS t = true) → (∀ t ∈ b, RtS t) ∧ ∀ t ∈ l, RtS t := fun e hb hl => by
      subst e
      rw [Sy.sizeS] at h
      exact ⟨fun t ht => rtS_all n t (by have := size_in ht; omega) (hb t ht), fun t ht => rtS_all n t (by have := size_in ht; omega) (hl t ht)⟩
    cases formS_of s hv with
    | set k nm x hk hn hx =>
      rcases hk with rfl | rfl
      · exact rt_set0 nm x (rt_expr x hx)
      · exact rt_set1 nm x (rt_expr x hx)
    | store nm x y hn hx hy => exact rt_store nm x y hx (rt_expr x hx) (rt_expr y hy)
    | cond x b l hx hb hl => exact rt_cond x b l (rt_expr x hx) (key rfl hb hl).1 (key rfl hb hl).2
    | loop x b hx hb => exact rt_loop x b (rt_expr x hx) (key rfl hb (fun _ h => by cases h)).1
    | send nm x l hn hx hl => exact rt_send nm x l hx fun e he => rt_expr e (hl e he)
    | print x hx => exact rt_print x (rt_expr x hx)
    | move x y hx hy => exact rt_move x y (rt_expr x hx) (rt_expr y hy)
    | watch nm x y hn hx hy => exact rt_watch nm x y (rt_expr x hx) (rt_expr y hy)
    | ret => exact rt_ret
theorem rt_stmt (s : S) (hv : validS s = true) : RtS s := rtS_all _ s (Nat.le_refl _) hv
theorem rt_block (l : List S) (rest : Toks) (hv : validSs l = true) : Ok (fun f => pB f (sy [123] :: (tokSs l ++ sy [125] :: rest))) l rest :=
  block_ok l rest fun s hs => rt_stmt s (by rw [validSs_all, List.all_eq_true] at hv; exact hv s hs)

/-! ### classes -/
theorem pFields_s (f : Nat) (l : List ByteArray) (ts : Toks) : pFields (f + 1) l ts = if is [118, 97, 114] ts then (word 2 ts.tail).bind fun n r => (expect [59] r).bind fun _ r => pFields f (l ++ [n]) r else .ok l ts := by rw [pFields]
theorem pParam_s (f : Nat) (l : List ByteArray) (ts : Toks) : pParam (f + 1) l ts = if is [44] ts then (word 2 ts.tail).bind fun n r => pParam f (l ++ [n]) r else (expect [41] ts).bind fun _ r => .ok l r := by rw [pParam]
theorem pMs_s (f : Nat) (l : List M) (ts : Toks) : pMs (f + 1) l ts = if is [111, 110] ts then (word 2 ts.tail).bind fun n r => (pParams f r).bind fun p r => (pB f r).bind fun b r => pMs f (l ++ [⟨n, p, b⟩]) r else .ok l ts := by rw [pMs]
theorem pP_s (f : Nat) (l : List C) (ts : Toks) : pP (f + 1) l ts = if (ts.headD default).kind = 0 then .ok l ts else (pC f ts).bind fun c r => pP f (l ++ [c]) r := by rw [pP]
theorem fields_ok : ∀ (l acc : List ByteArray) (rest : Toks), is [118, 97, 114] rest = false → Ok (fun f => pFields f acc ((l.map fieldK).flatten ++ rest)) (acc ++ l) rest
  | [], acc, rest, h => by
    refine .step (body := fun _ => .ok acc rest) (fun f => ?_) ?_
    · show pFields (f + 1) acc rest = _
      rw [pFields_s, h]
      rfl
    · rw [List.append_nil]
      exact .pure acc rest
  | s :: r, acc, rest, h => by
    have ih := fields_ok r (acc ++ [s]) rest h
    rw [List.append_assoc] at ih
    refine .step (body := fun f => pFields f (acc ++ [s]) ((r.map fieldK).flatten ++ rest)) (fun f => ?_) ih
    show pFields (f + 1) acc (kw [118, 97, 114] :: nmT s.data.toList :: sy [59] :: ((r.map fieldK).flatten ++ rest)) = _
    rw [pFields_s, if_pos (is_kw _ _), List.tail_cons]
    simp only [expect_sy, bind_ok, word_nm]
def ptailT : List ByteArray → Toks → Toks
  | [], rest => sy [41] :: rest
  | e :: r, rest => sy [44] :: nmT e.data.toList :: ptailT r rest
theorem params_tail : ∀ (e : ByteArray) (l : List ByteArray) (rest : Toks), paramsT (e :: l) ++ sy [41] :: rest = nmT e.data.toList :: ptailT l rest
  | e, [], rest => rfl
  | e, x :: r, rest => by
    show nmT e.data.toList :: sy [44] :: (paramsT (x :: r) ++ sy [41] :: rest) = _
    rw [params_tail x r rest]
    rfl
theorem param_ok : ∀ (l acc : List ByteArray) (rest : Toks), Ok (fun f => pParam f acc (ptailT l rest)) (acc ++ l) rest
  | [], acc, rest => by
    refine .step (body := fun _ => .ok acc rest) (fun f => by rw [pParam_s]; rfl) ?_
    rw [List.append_nil]
    exact .pure acc rest
  | s :: r, acc, rest => by
    have ih := param_ok r (acc ++ [s]) rest
    rw [List.append_assoc] at ih
    refine .step (body := fun f => pParam f (acc ++ [s]) (ptailT r rest)) (fun f => ?_) ih
    rw [pParam_s, ptailT, if_pos (is_sy _ _), List.tail_cons, word_nm, bind_ok]
theorem params_ok (l : List ByteArray) (rest : Toks) : Ok (fun f => pParams f (sy [40] :: (paramsT l ++ sy [41] :: rest))) l rest := by
  cases l with
  | nil => exact .cong (q := fun _ => .ok [] rest) (fun f => rfl) (.pure _ _)
  | cons e r =>
    rw [params_tail]
    refine .cong (q := fun f => pParam f [e] (ptailT r rest)) (fun f => ?_) (param_ok r [e] rest)
    have hno : is [41] (nmT e.data.toList :: ptailT r rest) = false := by rw [is_cons]; show (_ && false) = false; rw [Bool.and_false]
    unfold pParams
    rw [expect_sy, bind_ok, hno, if_neg (by decide), word_nm, bind_ok]
theorem methods_ok : ∀ (l acc : List M) (rest : Toks), (∀ m ∈ l, validM m = true) → is [111, 110] rest = false → Ok (fun f => pMs f acc ((l.map tokM).flatten ++ rest)) (acc ++ l) rest
  | [], acc, rest, _, h => by
    refine .step (body := fun _ => .ok acc rest) (fun f => ?_) ?_
    · show pMs (f + 1) acc rest = _
      rw [pMs_s, h]
      rfl
    · rw [List.append_nil]
      exact .pure acc rest
  | m :: r, acc, rest, hv, h => by
    have ih := methods_ok r (acc ++ [m]) rest (fun x hx => hv x (by simp [hx])) h
    rw [List.append_assoc] at ih
    have hm := hv m (by simp)
    rw [validM, Bool.and_eq_true] at hm
    refine .step (body := fun f => (pParams f (sy [40] :: (paramsT m.params ++ sy [41] :: sy [123] :: (tokSs m.body ++ sy [125] :: ((r.map tokM).flatten ++ rest))))).bind fun p r => (pB f r).bind fun b r => pMs f (acc ++ [⟨m.name, p, b⟩]) r) (fun f => ?_) (.bind (params_ok m.params _) (.bind (rt_block m.body _ hm.2) ih))
    have e1 : ((m :: r).map tokM).flatten ++ rest = kw [111, 110] :: nmT m.name.data.toList :: sy [40] :: (paramsT m.params ++ sy [41] :: sy [123] :: (tokSs m.body ++ sy [125] :: ((r.map tokM).flatten ++ rest))) := by
      rw [List.map_cons, List.flatten_cons, tokM]
      simp
    rw [e1, pMs_s, if_pos (is_kw _ _), List.tail_cons, word_nm, bind_ok]
theorem class_ok (c : C) (rest : Toks) (h : validC c = true) : Ok (fun f => pC f (tokC c ++ rest)) c rest := by
  obtain ⟨nm, ac, fs, ms⟩ := c
  rw [validC, Bool.and_eq_true, Bool.and_eq_true, Bool.and_eq_true, List.all_eq_true, List.all_eq_true] at h
  obtain ⟨⟨⟨hn, hf⟩, ha⟩, hm⟩ := h
  have e1 : tokC ⟨nm, ac, fs, ms⟩ ++ rest = kw (if ac then [97, 99, 116, 111, 114] else [114, 101, 99, 111, 114, 100]) :: clT nm.data.toList :: sy [123] :: ((fs.map fieldK).flatten ++ ((ms.map tokM).flatten ++ sy [125] :: rest)) := by
    rw [tokC]
    simp
  have hvar : is [118, 97, 114] ((ms.map tokM).flatten ++ sy [125] :: rest) = false := by cases ms <;> rfl
  have hF := fields_ok fs [] _ hvar
  cases ac with
  | true =>
    have hM := methods_ok ms [] (sy [125] :: rest) hm rfl
    refine .cong (q := fun f => (pFields f [] ((fs.map fieldK).flatten ++ ((ms.map tokM).flatten ++ sy [125] :: rest))).bind fun fs r => (pMs f [] r).bind fun ms r => (expect [125] r).bind fun _ r => .ok ⟨nm, true, fs, ms⟩ r) (fun f => ?_) (.bind hF (.bind hM (.cong (q := fun _ => .ok ⟨nm, true, fs, ms⟩ rest) (fun _ => by simp only [expect_sy, bind_ok, List.nil_append]) (.pure _ _))))
    have e2 : tokC ⟨nm, true, fs, ms⟩ ++ rest = kw [97, 99, 116, 111, 114] :: clT nm.data.toList :: sy [123] :: ((fs.map fieldK).flatten ++ ((ms.map tokM).flatten ++ sy [125] :: rest)) := e1
    rw [e2]
    unfold pC
    rw [is_kw, if_pos rfl, List.tail_cons, bind_ok, word_cl, bind_ok, expect_sy, bind_ok]
    rfl
  | false =>
    have ha : (false || decide (ms.length = 0)) = true := ha
    rw [Bool.false_or, decide_eq_true_eq] at ha
    obtain rfl := List.eq_nil_of_length_eq_zero ha
    refine .cong (q := fun f => (pFields f [] ((fs.map fieldK).flatten ++ ((([] : List M).map tokM).flatten ++ sy [125] :: rest))).bind fun fs r => (expect [125] r).bind fun _ r => .ok ⟨nm, false, fs, []⟩ r) (fun f => ?_) (.bind hF (.cong (q := fun _ => .ok ⟨nm, false, fs, []⟩ rest) (fun _ => by simp only [List.map_nil, List.flatten_nil, expect_sy, bind_ok, List.nil_append]) (.pure _ _)))
    have e2 : tokC ⟨nm, false, fs, []⟩ ++ rest = kw [114, 101, 99, 111, 114, 100] :: clT nm.data.toList :: sy [123] :: ((fs.map fieldK).flatten ++ ((([] : List M).map tokM).flatten ++ sy [125] :: rest)) := e1
    have hno : is [97, 99, 116, 111, 114] (kw [114, 101, 99, 111, 114, 100] :: clT nm.data.toList :: sy [123] :: ((fs.map fieldK).flatten ++ ((([] : List M).map tokM).flatten ++ sy [125] :: rest))) = false := rfl
    rw [e2]
    unfold pC
    rw [hno, if_neg (by decide), expect_kw, bind_ok, word_cl, bind_ok, expect_sy, bind_ok]
    rfl
theorem prog_ok : ∀ (l acc : List C), (∀ c ∈ l, validC c = true) → Ok (fun f => pP f acc (tokP l)) (acc ++ l) []
  | [], acc, _ => by
    refine .step (body := fun _ => .ok acc []) (fun f => by rw [pP_s]; rfl) ?_
    rw [List.append_nil]
    exact .pure acc []
  | c :: r, acc, h => by
    have ih := prog_ok r (acc ++ [c]) fun x hx => h x (by simp [hx])
    rw [List.append_assoc] at ih
    have e1 : tokP (c :: r) = tokC c ++ tokP r := rfl
    rw [e1]
    refine .step (body := fun f => (pC f (tokC c ++ tokP r)).bind fun c r => pP f (acc ++ [c]) r) (fun f => ?_) (.bind (class_ok c _ (h c (by simp))) ih)
    rw [pP_s, if_neg]
    show ¬ (4 : Nat) = 0
    decide
/-- the tokens of a valid program, parsed, are the program -/
theorem rt_prog (l : List C) (h : validP l = true) : Ok (fun f => pP f [] (tokP l)) l [] := by
  rw [validP, List.all_eq_true] at h
  exact prog_ok l [] h
end Pa
end Go.Proofs.YtlgfickhkejdjaaGreatDoor

namespace Go.Proofs.YtlgfickhkejdjaaGreatDoor
namespace Pa
open Tr
/-- a text is these tokens -/
inductive Lx : Bytes → List B → Prop
  | nil {s : Bytes} (h : Lex.skip false s = []) : Lx s []
  | tok {s : Bytes} {c : UInt8} {r : Bytes} {k : Nat} {t : Bytes} {v : Nat} {ts : List B} (h : Lex.skip false s = c :: r) (hn : Lex.next (c :: r) = .tok k t v) (ht : Lx ((c :: r).drop t.length) ts) : Lx s (⟨k, t, v⟩ :: ts)
theorem Lx.det {s : Bytes} {a b : List B} (h1 : Lx s a) (h2 : Lx s b) : a = b := by
  induction h1 generalizing b with
  | nil h =>
    cases h2 with
    | nil _ => rfl
    | tok h' _ _ => rw [h] at h'; cases h'
  | tok h hn _ ih =>
    cases h2 with
    | nil h' => rw [h] at h'; cases h'
    | tok h' hn' ht' =>
      rw [h] at h'
      injection h' with e1 e2
      subst e1
      subst e2
      rw [hn] at hn'
      injection hn' with e1 e2 e3
      subst e1
      subst e2
      subst e3
      rw [ih ht']
theorem Lx.skip {s s' : Bytes} {ts : List B} (e : Lex.skip false s' = Lex.skip false s) (h : Lx s ts) : Lx s' ts := by
  cases h with
  | nil h => exact .nil (e.trans h)
  | tok h hn ht => exact .tok (e.trans h) hn ht
theorem lx_sp {s : Bytes} {ts : List B} (h : Lx s ts) : Lx (32 :: s) ts := Lx.skip (s := s) (show Lex.skip false (32 :: s) = Lex.skip false s from rfl) h
theorem lx_lf {s : Bytes} {ts : List B} (h : Lx s ts) : Lx (10 :: s) ts := Lx.skip (s := s) (show Lex.skip false (10 :: s) = Lex.skip false s from rfl) h
/-- what comes behind a word or a number: no letter, no digit, no equals sign -/
def Sep (s : Bytes) : Prop := ∀ c r, s = c :: r → Lex.wordc c = false ∧ c ≠ 61
theorem sep_nil : Sep [] := fun _ _ h => by cases h
theorem sep_cons {c : UInt8} (s : Bytes) (h : Lex.wordc c = false) (h2 : c ≠ 61) : Sep (c :: s) := fun x r e => by
  injection e with e1 e2
  subst e1
  exact ⟨h, h2⟩
theorem takeWhile_sep {p : UInt8 → Bool} : ∀ (w s : Bytes), (∀ c ∈ w, p c = true) → (∀ c r, s = c :: r → p c = false) → (w ++ s).takeWhile p = w
  | [], [], _, _ => rfl
  | [], c :: r, _, h => by rw [List.nil_append, List.takeWhile_cons, h c r rfl]; rfl
  | c :: w, s, h1, h2 => by rw [List.cons_append, List.takeWhile_cons, h1 c (by simp), if_pos rfl, takeWhile_sep w s (fun x hx => h1 x (by simp [hx])) h2]
theorem letter_skip {c : UInt8} (r : Bytes) (h : Lex.wordc c = true) : Lex.skip false (c :: r) = c :: r := by
  have h2 := wordc_cases h
  have e1 : Lex.space c = false := by
    unfold Lex.space
    rw [decide_eq_false_iff_not]
    omega
  rw [Lex.skip, e1, if_neg (by decide), if_neg (by omega)]
theorem Lx.tok' {c : UInt8} {r : Bytes} {k : Nat} {t : Bytes} {v : Nat} {ts : List B} {s : Bytes} (hk : Lex.skip false (c :: r) = c :: r) (hn : Lex.next (c :: r) = .tok k t v) (e : c :: r = t ++ s) (h : Lx s ts) : Lx (t ++ s) (⟨k, t, v⟩ :: ts) := by
  rw [e] at hk hn
  have hk2 : Lex.skip false (t ++ s) = c :: r := hk.trans e.symm
  refine .tok hk2 (by rw [e]; exact hn) ?_
  rw [e, List.drop_left]
  exact h
theorem lx_word {w s : Bytes} {ts : List B} (hw : ∀ c ∈ w, Lex.wordc c = true) (hl : Lex.letter (w.headD 0) = true) (hn : w.length ≤ 31) (hs : Sep s) (h : Lx s ts) : Lx (w ++ s) (⟨if Lex.keywords.contains w then 4 else if (w.headD 0).toNat ≤ 90 then 3 else 2, w, 0⟩ :: ts) := by
  cases w with
  | nil => exact absurd hl (by decide)
  | cons c r =>
    have htw : (c :: r ++ s).takeWhile Lex.wordc = c :: r := takeWhile_sep (c :: r) s hw fun x q e => (hs x q e).1
    refine Lx.tok' (c := c) (r := r ++ s) (letter_skip _ (hw c (by simp))) ?_ rfl h
    unfold Lex.next
    rw [List.headD_cons, show Lex.letter c = true from hl, if_pos rfl]
    unfold Lex.nameAt
    rw [show (c :: (r ++ s)).takeWhile Lex.wordc = c :: r from htw]
    simp only []
    rw [if_neg (by omega)]
    by_cases hk : Lex.keywords.contains (c :: r) = true
    · rw [if_pos hk, if_pos hk]
    · rw [if_neg hk, if_neg hk]
      by_cases h9 : ((c :: r).headD 0).toNat ≤ 90
      · rw [if_pos h9, if_pos h9]
      · rw [if_neg h9, if_neg h9]
theorem lx_kw {w s : Bytes} {ts : List B} (hw : w ∈ Lex.keywords) (hs : Sep s) (h : Lx s ts) : Lx (w ++ s) (kw w :: ts) := by
  have key : (∀ c ∈ w, Lex.wordc c = true) ∧ Lex.letter (w.headD 0) = true ∧ w.length ≤ 31 ∧ Lex.keywords.contains w = true := by
    have hall : Lex.keywords.all (fun w => w.all Lex.wordc && Lex.letter (w.headD 0) && decide (w.length ≤ 31) && Lex.keywords.contains w) = true := by decide +kernel
    have := List.all_eq_true.1 hall w hw
    rw [Bool.and_eq_true, Bool.and_eq_true, Bool.and_eq_true, List.all_eq_true, decide_eq_true_eq] at this
    exact ⟨this.1.1.1, this.1.1.2, this.1.2, this.2⟩
  have h2 := lx_word key.1 key.2.1 key.2.2.1 hs h
  rw [if_pos key.2.2.2] at h2
  exact h2
theorem name_parts {lo hi : Nat} {l : Bytes} (h : nameL lo hi l = true) : l.length ≤ 31 ∧ lo ≤ (l.headD 0).toNat ∧ (l.headD 0).toNat ≤ hi ∧ Lex.keywords.contains l = false ∧ ∀ c ∈ l, Lex.wordc c = true := by
  unfold nameL at h
  rw [Bool.and_eq_true, Bool.and_eq_true, decide_eq_true_eq, Bool.not_eq_true'] at h
  exact ⟨h.1.1.2.1, h.1.1.2.2.1, h.1.1.2.2.2, h.1.2, List.all_eq_true.1 h.2⟩
theorem lx_var {nm : ByteArray} {s : Bytes} {ts : List B} (hw : varB nm = true) (hs : Sep s) (h : Lx s ts) : Lx (nm.data.toList ++ s) (nmT nm.data.toList :: ts) := by
  obtain ⟨h1, h2, h3, h4, h5⟩ := name_parts (show nameL 97 122 nm.data.toList = true from hw)
  have := lx_word h5 (by unfold Lex.letter; rw [decide_eq_true_eq]; omega) h1 hs h
  rw [h4, if_neg (by decide), if_neg (by omega)] at this
  exact this
theorem lx_cls {nm : ByteArray} {s : Bytes} {ts : List B} (hw : clsB nm = true) (hs : Sep s) (h : Lx s ts) : Lx (nm.data.toList ++ s) (clT nm.data.toList :: ts) := by
  obtain ⟨h1, h2, h3, h4, h5⟩ := name_parts (show nameL 65 90 nm.data.toList = true from hw)
  have := lx_word h5 (by unfold Lex.letter; rw [decide_eq_true_eq]; omega) h1 hs h
  rw [h4, if_neg (by decide), if_pos (by omega)] at this
  exact this
theorem digit_word {c : UInt8} (h : Lex.digit c = true) : Lex.wordc c = true := by unfold Lex.wordc; rw [h]; simp
theorem lx_num {n : Nat} {s : Bytes} {ts : List B} (hn : n ≤ 2305843009213693951) (hs : Sep s) (h : Lx s ts) : Lx (dec n ++ s) (⟨1, dec n, n⟩ :: ts) := by
  have hd := dec_all n
  have htw : (dec n ++ s).takeWhile Lex.digit = dec n := takeWhile_sep _ s hd fun x q e => by
    have := (hs x q e).1
    cases hdg : Lex.digit x with
    | false => rfl
    | true => rw [digit_word hdg] at this; cases this
  cases hdn : dec n with
  | nil => exact absurd hdn (dec_ne n)
  | cons c r =>
    rw [hdn] at htw hd
    have hc := hd c (by simp)
    refine Lx.tok' (c := c) (r := r ++ s) (letter_skip _ (digit_word hc)) ?_ rfl h
    unfold Lex.next
    have hle : Lex.letter c = false := by
      unfold Lex.digit at hc
      rw [decide_eq_true_eq] at hc
      unfold Lex.letter
      rw [decide_eq_false_iff_not]
      omega
    rw [List.headD_cons, hle, if_neg (by decide), hc, if_pos rfl]
    unfold Lex.numberAt
    rw [show (c :: (r ++ s)).takeWhile Lex.digit = c :: r from htw]
    simp only []
    have hdr : (c :: (r ++ s)).drop (c :: r).length = s := List.drop_left (l₁ := c :: r) (l₂ := s)
    rw [hdr, if_neg, if_neg, if_neg]
    · rw [← hdn, dec_value]
    · rw [← hdn, dec_value]; omega
    · rintro ⟨a, b⟩
      rcases Nat.eq_zero_or_pos n with rfl | hp
      · rw [← hdn] at a
        have : (dec 0).length = 1 := by rw [dec_small (by omega)]; rfl
        omega
      · have := dec_head n hp
        rw [hdn, List.headD_cons] at this
        rw [List.headD_cons] at b
        rw [b] at this
        exact this (by decide)
    · cases s with
      | nil => simp
      | cons x q =>
        have h1 := (hs x q rfl).1
        have : Lex.tailc x = false := by
          unfold Lex.tailc
          unfold Lex.wordc at h1
          rw [Bool.or_eq_false_iff, Bool.or_eq_false_iff] at h1
          rw [h1.1.1, h1.2]
          rfl
        simp [this]
theorem sym_skip {c : UInt8} (r : Bytes) (h : Lex.space c = false) (h2 : c.toNat ≠ 35) : Lex.skip false (c :: r) = c :: r := by
  rw [Lex.skip, h, if_neg (by decide), if_neg h2]
/-- a symbol of one byte -/
theorem lx_sym1 {c : UInt8} {s : Bytes} {ts : List B} (hc : Lex.symbols.contains [c] = true) (he : c ∈ ([61, 60, 62] : Bytes) → ∀ r, s ≠ 61 :: r) (h : Lx s ts) : Lx (c :: s) (sy [c] :: ts) := by
  have hall : Lex.symbols.all (fun t => match t with | [c] => !Lex.letter c && !Lex.digit c && !Lex.space c && decide (c.toNat ≠ 35) | _ => true) = true := by decide +kernel
  have hm : [c] ∈ Lex.symbols := by rw [List.contains_iff_mem] at hc; exact hc
  have h1 := List.all_eq_true.1 hall [c] hm
  simp only [Bool.and_eq_true, Bool.not_eq_true', decide_eq_true_eq] at h1
  obtain ⟨⟨⟨a1, a2⟩, a3⟩, a4⟩ := h1
  refine Lx.tok' (t := [c]) (c := c) (r := s) (sym_skip _ a3 a4) ?_ rfl h
  unfold Lex.next
  rw [List.headD_cons, a1, if_neg (by decide), a2, if_neg (by decide)]
  unfold Lex.symbolAt
  rw [if_neg, if_pos]
  · rfl
  · exact hc
  · rintro ⟨hl, h2⟩
    cases s with
    | nil => simp at hl
    | cons d r =>
      have h3 : Lex.symbols.contains [c, d] = true := h2
      rw [List.contains_iff_mem] at h3
      have h4 : Lex.symbols.all (fun t => match t with | [c, d] => decide (d = 61) && (decide (c = 33) || decide (c = 60) || decide (c = 61) || decide (c = 62)) | _ => true) = true := by decide +kernel
      have h5 := List.all_eq_true.1 h4 [c, d] h3
      simp only [Bool.and_eq_true, Bool.or_eq_true, decide_eq_true_eq] at h5
      obtain ⟨rfl, h6⟩ := h5
      have h7 : c ≠ 33 := by rintro rfl; revert hc; decide
      exact he (by simp; rcases h6 with ((h6 | h6) | h6) | h6 <;> simp_all) r rfl
theorem lx_sym2 {c d : UInt8} {s : Bytes} {ts : List B} (hc : Lex.symbols.contains [c, d] = true) (h : Lx s ts) : Lx (c :: d :: s) (sy [c, d] :: ts) := by
  have hall : Lex.symbols.all (fun t => match t with | [c, _] => !Lex.letter c && !Lex.digit c && !Lex.space c && decide (c.toNat ≠ 35) | _ => true) = true := by decide +kernel
  have hm : [c, d] ∈ Lex.symbols := by rw [List.contains_iff_mem] at hc; exact hc
  have h1 := List.all_eq_true.1 hall [c, d] hm
  simp only [Bool.and_eq_true, Bool.not_eq_true', decide_eq_true_eq] at h1
  obtain ⟨⟨⟨a1, a2⟩, a3⟩, a4⟩ := h1
  refine Lx.tok' (t := [c, d]) (c := c) (r := d :: s) (sym_skip _ a3 a4) ?_ rfl h
  unfold Lex.next
  rw [List.headD_cons, a1, if_neg (by decide), a2, if_neg (by decide)]
  unfold Lex.symbolAt
  rw [if_pos ⟨by simp, hc⟩]
  rfl
theorem lx_one {c : UInt8} {s : Bytes} {ts : List B} (hc : Lex.symbols.contains [c] = true) (he : c ∉ ([61, 60, 62] : Bytes)) (h : Lx s ts) : Lx (c :: s) (sy [c] :: ts) := lx_sym1 hc (fun h => absurd h he) h
theorem ne_61 {s : Bytes} (h : Sep s) : ∀ r, s ≠ 61 :: r := fun r e => (h 61 r e).2 rfl
theorem sep_sp (s : Bytes) : Sep (32 :: s) := sep_cons s (by decide) (by decide)
theorem lx_op {o : Int} (h0 : 0 ≤ o) (h1 : o ≤ 12) {s : Bytes} {ts : List B} (h : Lx s ts) : Lx (Sy.sym o ++ 32 :: s) (opT o :: ts) := by
  have h2 := lx_sp h
  have hs := sep_sp s
  have hc : o = 0 ∨ o = 1 ∨ o = 2 ∨ o = 3 ∨ o = 4 ∨ o = 5 ∨ o = 6 ∨ o = 7 ∨ o = 8 ∨ o = 9 ∨ o = 10 ∨ o = 11 ∨ o = 12 := by omega
  rcases hc with rfl | rfl | rfl | rfl | rfl | rfl | rfl | rfl | rfl | rfl | rfl | rfl | rfl
  · exact lx_sym1 (c := 43) (by decide) (fun _ => ne_61 hs) h2
  · exact lx_sym1 (c := 45) (by decide) (fun _ => ne_61 hs) h2
  · exact lx_sym1 (c := 42) (by decide) (fun _ => ne_61 hs) h2
  · exact lx_sym1 (c := 47) (by decide) (fun _ => ne_61 hs) h2
  · exact lx_sym1 (c := 37) (by decide) (fun _ => ne_61 hs) h2
  · exact lx_sym2 (c := 61) (d := 61) (by decide) h2
  · exact lx_sym2 (c := 33) (d := 61) (by decide) h2
  · exact lx_sym1 (c := 60) (by decide) (fun _ => ne_61 hs) h2
  · exact lx_sym2 (c := 60) (d := 61) (by decide) h2
  · exact lx_sym1 (c := 62) (by decide) (fun _ => ne_61 hs) h2
  · exact lx_sym2 (c := 62) (d := 61) (by decide) h2
  · exact lx_kw (w := [97, 110, 100]) (by decide) hs h2
  · exact lx_kw (w := [111, 114]) (by decide) hs h2

/-! ### expressions -/
def LxE (e : E) : Prop := ∀ s ts, Sep s → Lx s ts → Lx (Sy.text e ++ s) (toks e ++ ts)
def argX (req : Nat) (e : E) : Bytes := Sy.par req (Sy.level e, Sy.text e)
theorem lx_arg {e : E} (h : LxE e) (req : Nat) {s : Bytes} {ts : List B} (hs : Sep s) (hl : Lx s ts) : Lx (argX req e ++ s) (argT req e ++ ts) := by
  unfold argX argT Sy.par parT
  by_cases hr : Sy.level e < req
  · rw [if_pos hr, if_pos hr]
    show Lx ([40] ++ Sy.text e ++ [41] ++ s) (sy [40] :: (toks e ++ [sy [41]]) ++ ts)
    have h2 := lx_one (c := 40) (by decide) (by decide) (h _ _ (sep_cons s (show Lex.wordc 41 = false by decide) (by decide)) (lx_one (c := 41) (by decide) (by decide) hl))
    simpa using h2
  · rw [if_neg hr, if_neg hr]
    exact h s ts hs hl
theorem lx_commas : ∀ (l : List E), (∀ e ∈ l, LxE e) → ∀ s ts, Sep s → Lx s ts → Lx (Sy.commas (l.map Sy.text) ++ s) (commasT (l.map toks) ++ ts)
  | [], _, s, ts, _, hl => hl
  | [e], h, s, ts, hs, hl => h e (by simp) s ts hs hl
  | e :: x :: r, h, s, ts, hs, hl => by
    have ih := lx_commas (x :: r) (fun y hy => h y (by simp at hy ⊢; exact .inr hy)) s ts hs hl
    show Lx ((Sy.text e ++ [44, 32] ++ Sy.commas (Sy.text x :: r.map Sy.text)) ++ s) ((toks e ++ sy [44] :: commasT (toks x :: r.map toks)) ++ ts)
    rw [List.append_assoc, List.append_assoc, List.append_assoc, List.cons_append]
    exact h e (by simp) _ _ (sep_cons _ (by decide) (by decide)) (lx_one (by decide) (by decide) (lx_sp ih))
theorem text_num (n : Nat) : Sy.text (num n) = dec n := by rw [num, Sy.text]; rfl
theorem text_fld (nm : ByteArray) (x : E) : Sy.text (fld nm x) = argX 8 x ++ [46] ++ nm.data.toList := by rw [fld, Sy.text, Sy.texts, Sy.texts]; rfl
theorem text_new (nm : ByteArray) (l : List E) : Sy.text (new nm false l) = [110, 101, 119, 32] ++ nm.data.toList ++ [40] ++ Sy.commas (l.map Sy.text) ++ [41] := by
  rw [new, Sy.text, Sy.texts_map]
  show [110, 101, 119, 32] ++ nm.data.toList ++ [40] ++ Sy.commas ((l.map fun e => (Sy.level e, Sy.text e)).map Prod.snd) ++ [41] = _
  rw [List.map_map]
  rfl
theorem text_newAt (nm : ByteArray) (l : List E) (y : E) : Sy.text (new nm true (l ++ [y])) = [110, 101, 119, 32] ++ nm.data.toList ++ [40] ++ Sy.commas (l.map Sy.text) ++ [41, 32, 97, 116, 32] ++ argX 7 y := by
  rw [new, Sy.text, Sy.texts_map]
  show [110, 101, 119, 32] ++ nm.data.toList ++ [40] ++ Sy.commas (((l ++ [y]).map fun e => (Sy.level e, Sy.text e)).dropLast.map Prod.snd) ++ [41, 32, 97, 116, 32] ++ Sy.par 7 (((l ++ [y]).map fun e => (Sy.level e, Sy.text e)).getLastD (9, [])) = _
  rw [List.map_append, List.map_cons, List.map_nil, List.dropLast_concat, List.getLastD_concat, List.map_map]
  rfl
theorem text_bin (o : Int) (x y : E) : Sy.text (bin o x y) = argX (if Sy.opLevel o = 4 then 5 else Sy.opLevel o) x ++ [32] ++ Sy.sym o ++ [32] ++ argX (Sy.opLevel o + 1) y := by rw [bin, Sy.text, Sy.texts, Sy.texts, Sy.texts]; rfl
theorem text_un6 (x : E) : Sy.text (un 6 x) = [119, 101, 97, 107] ++ 32 :: argX 7 x := by rw [un, Sy.text, Sy.texts, Sy.texts]; rfl
theorem text_un7 (x : E) : Sy.text (un 7 x) = [103, 101, 116] ++ 32 :: argX 7 x := by rw [un, Sy.text, Sy.texts, Sy.texts]; rfl
theorem text_un8 (x : E) : Sy.text (un 8 x) = 45 :: argX 7 x := by rw [un, Sy.text, Sy.texts, Sy.texts]; rfl
theorem text_un9 (x : E) : Sy.text (un 9 x) = [110, 111, 116] ++ 32 :: argX 3 x := by rw [un, Sy.text, Sy.texts, Sy.texts]; rfl
theorem lx_all : ∀ (n : Nat) (e : E), Sy.sizeE e ≤ n → validE e = true → LxE e
  | 0, e, h, _ => by have : 0 < Sy.sizeE e := by (cases e; rw [Sy.sizeE]; omega)
                     omega
  | n + 1, e, h, hv => by
    have ih : ∀ x, Sy.sizeE x < Sy.sizeE e → validE x = true → LxE x := fun x hx hvx => lx_all n x (by omega) hvx
    intro s ts hs hl
    cases form_of e hv with
    | num m hm => rw [text_num, toks_num]; exact lx_num hm hs hl
    | nil => rw [toks_leaf1, show Sy.text (leaf 1) = [110, 105, 108] by rw [leaf, Sy.text]; rfl]; exact lx_kw (by decide) hs hl
    | this => rw [toks_leaf2, show Sy.text (leaf 2) = [116, 104, 105, 115] by rw [leaf, Sy.text]; rfl]; exact lx_kw (by decide) hs hl
    | var nm hn => rw [toks_var, show Sy.text (var nm) = nm.data.toList by rw [var, Sy.text]; rfl]; exact lx_var hn hs hl
    | fld nm x hn hx =>
      rw [text_fld, toks_fld, List.append_assoc, List.append_assoc, List.append_assoc]
      exact lx_arg (ih x (size_args (by simp)) hx) 8 (sep_cons _ (by decide) (by decide)) (lx_one (by decide) (by decide) (lx_var hn hs hl))
    | new nm l hn hx =>
      rw [text_new, toks_new]
      have h1 := lx_commas l (fun x hm => ih x (size_args hm) (hx x hm)) _ _ (sep_cons s (show Lex.wordc 41 = false by decide) (by decide)) (lx_one (c := 41) (by decide) (by decide) hl)
      have h2 := lx_kw (w := [110, 101, 119]) (by decide) (sep_sp _) (lx_sp (lx_cls hn (sep_cons _ (show Lex.wordc 40 = false by decide) (by decide)) (lx_one (c := 40) (by decide) (by decide) h1)))
      simpa using h2
    | newAt nm l y hn hx hy =>
      rw [text_newAt, toks_newAt]
      have h0 := lx_kw (w := [97, 116]) (by decide) (sep_sp _) (lx_sp (lx_arg (ih y (size_args (by simp)) hy) 7 hs hl))
      have h1 := lx_commas l (fun x hm => ih x (size_args (by simp [hm])) (hx x hm)) _ _ (sep_cons _ (show Lex.wordc 41 = false by decide) (by decide)) (lx_one (c := 41) (by decide) (by decide) (lx_sp h0))
      have h2 := lx_kw (w := [110, 101, 119]) (by decide) (sep_sp _) (lx_sp (lx_cls hn (sep_cons _ (show Lex.wordc 40 = false by decide) (by decide)) (lx_one (c := 40) (by decide) (by decide) h1)))
      simpa using h2
    | un k x hk hx =>
      have hx2 := ih x (size_args (by simp)) hx
      rcases hk with rfl | rfl | rfl | rfl
      · rw [text_un6, toks_un6, List.append_assoc]
        exact lx_kw (by decide) (sep_sp _) (lx_sp (lx_arg hx2 7 hs hl))
      · rw [text_un7, toks_un7, List.append_assoc]
        exact lx_kw (by decide) (sep_sp _) (lx_sp (lx_arg hx2 7 hs hl))
      · rw [text_un8, toks_un8]
        exact lx_one (by decide) (by decide) (lx_arg hx2 7 hs hl)
      · rw [text_un9, toks_un9, List.append_assoc]
        exact lx_kw (by decide) (sep_sp _) (lx_sp (lx_arg hx2 3 hs hl))
    | bin o x y h0 h1 hx hy =>
      have hx2 := ih x (size_args (by simp)) hx
      have hy2 := ih y (size_args (by simp)) hy
      rw [text_bin, toks_bin]
      have h2 := lx_arg hx2 (if Sy.opLevel o = 4 then 5 else Sy.opLevel o) (sep_sp _) (lx_sp (lx_op h0 h1 (lx_arg hy2 (Sy.opLevel o + 1) hs hl)))
      simpa using h2
theorem lx_expr (e : E) (hv : validE e = true) : LxE e := lx_all _ e (Nat.le_refl _) hv
end Pa
end Go.Proofs.YtlgfickhkejdjaaGreatDoor

namespace Go.Proofs.YtlgfickhkejdjaaGreatDoor
namespace Pa
open Tr
theorem lx_ind {s : Bytes} {ts : List B} (d : Nat) (h : Lx s ts) : Lx (Sy.ind d ++ s) ts := by
  unfold Sy.ind
  induction 2 * d with
  | zero => exact h
  | succ n ih => rw [List.replicate_succ]; exact lx_sp ih
theorem sep_lf (s : Bytes) : Sep (10 :: s) := sep_cons s (by decide) (by decide)
theorem lx_line {d : Nat} {x s : Bytes} {a ts : List B} (h : ∀ s ts, Sep s → Lx s ts → Lx (x ++ s) (a ++ ts)) (hl : Lx s ts) : Lx (Sy.line d x ++ s) (a ++ ts) := by
  unfold Sy.line
  rw [List.append_assoc, List.append_assoc]
  exact lx_ind d (h _ _ (sep_lf s) (lx_lf hl))
theorem Lx.cast {s s' : Bytes} {ts ts' : List B} (h : Lx s ts) (e : s' = s) (e2 : ts' = ts) : Lx s' ts' := by rw [e, e2]; exact h
abbrev LxT (x : Bytes) (a : List B) : Prop := ∀ s ts, Sep s → Lx s ts → Lx (x ++ s) (a ++ ts)
theorem lx_semi {x : Bytes} {a : List B} (h : LxT x a) : LxT (x ++ [59]) (a ++ [sy [59]]) := fun s ts _ hl => by
  rw [List.append_assoc, List.append_assoc]
  exact h _ _ (sep_cons s (by decide) (by decide)) (lx_one (c := 59) (by decide) (by decide) hl)
theorem lx_commasT : ∀ (l : List (Bytes × Toks)), (∀ x ∈ l, LxT x.1 x.2) → LxT (Sy.commas (l.map Prod.fst)) (commasT (l.map Prod.snd))
  | [], _, s, ts, _, hl => hl
  | [e], h, s, ts, hs, hl => h e (by simp) s ts hs hl
  | e :: x :: r, h, s, ts, hs, hl => by
    have ih := lx_commasT (x :: r) (fun y hy => h y (by simp at hy ⊢; exact .inr hy)) s ts hs hl
    show Lx ((e.1 ++ [44, 32] ++ Sy.commas (x.1 :: r.map Prod.fst)) ++ s) ((e.2 ++ sy [44] :: commasT (x.2 :: r.map Prod.snd)) ++ ts)
    rw [List.append_assoc, List.append_assoc, List.append_assoc, List.cons_append]
    exact h e (by simp) _ _ (sep_cons _ (by decide) (by decide)) (lx_one (by decide) (by decide) (lx_sp ih))
/-! ### statements without a block -/
theorem lx_simple (s0 : S) (hf : FormS s0) (h3 : s0.kind ≠ 3) (h4 : s0.kind ≠ 4) : match s0 with | .mk k nm x _ _ => LxT (Sy.simple k nm.data.toList (Sy.texts x)) (simpleT k nm.data.toList (tokss x)) := by
  cases hf with
  | set k nm x hk hn hx =>
    intro s ts hs hl
    have hX := lx_expr x hx s ts hs hl
    rcases hk with rfl | rfl
    · have e := lx_kw (w := [108, 101, 116]) (by decide) (sep_sp _) (lx_sp (lx_var hn (sep_sp _) (lx_sp (lx_sym1 (c := 61) (s := 32 :: (Sy.text x ++ s)) (by decide) (fun _ => ne_61 (sep_sp _)) (lx_sp hX)))))
      refine e.cast ?_ ?_
      · rw [Sy.texts, Sy.texts]
        show ([108, 101, 116, 32] ++ nm.data.toList ++ [32, 61, 32] ++ Sy.text x) ++ s = _
        simp
      · rw [tokss, tokss]
        rfl
    · have e := lx_var hn (sep_sp _) (lx_sp (lx_sym1 (c := 61) (s := 32 :: (Sy.text x ++ s)) (by decide) (fun _ => ne_61 (sep_sp _)) (lx_sp hX)))
      refine e.cast ?_ ?_
      · rw [Sy.texts, Sy.texts]
        show (nm.data.toList ++ [32, 61, 32] ++ Sy.text x) ++ s = _
        simp
      · rw [tokss, tokss]
        rfl
  | store nm x y hn hx hy =>
    intro s ts hs hl
    have hX := lx_expr y hy s ts hs hl
    have e1 := lx_one (c := 46) (by decide) (by decide) (lx_var hn (sep_sp _) (lx_sp (lx_sym1 (c := 61) (s := 32 :: (Sy.text y ++ s)) (by decide) (fun _ => ne_61 (sep_sp _)) (lx_sp hX))))
    have e := lx_arg (lx_expr x hx) 9 (sep_cons _ (by decide) (by decide)) e1
    refine e.cast ?_ ?_
    · rw [Sy.texts, Sy.texts, Sy.texts]
      show (argX 9 x ++ [46] ++ nm.data.toList ++ [32, 61, 32] ++ Sy.text y) ++ s = _
      simp
    · rw [tokss, tokss, tokss]
      show (argT 9 x ++ sy [46] :: nmT nm.data.toList :: sy [61] :: toks y) ++ ts = _
      simp
  | cond x b l hx hb hl => exact absurd rfl h3
  | loop x b hx hb => exact absurd rfl h4
  | send nm x l hn hx hl0 =>
    intro s ts hs hl
    have e0 := lx_commas l (fun e he => lx_expr e (hl0 e he)) _ _ (sep_cons s (show Lex.wordc 41 = false by decide) (by decide)) (lx_one (c := 41) (by decide) (by decide) hl)
    have e1 := lx_one (c := 46) (by decide) (by decide) (lx_var hn (sep_cons _ (show Lex.wordc 40 = false by decide) (by decide)) (lx_one (c := 40) (by decide) (by decide) e0))
    have e := lx_kw (w := [115, 101, 110, 100]) (by decide) (sep_sp _) (lx_sp (lx_arg (lx_expr x hx) 8 (sep_cons _ (by decide) (by decide)) e1))
    refine e.cast ?_ ?_
    · rw [Sy.texts, Sy.texts_map]
      show ([115, 101, 110, 100, 32] ++ argX 8 x ++ [46] ++ nm.data.toList ++ [40] ++ Sy.commas ((l.map fun e => (Sy.level e, Sy.text e)).map Prod.snd) ++ [41]) ++ s = _
      rw [List.map_map, show (Prod.snd ∘ fun e => (Sy.level e, Sy.text e)) = Sy.text from rfl]
      simp
    · rw [tokss, tokss_map]
      show (kw [115, 101, 110, 100] :: (argT 8 x ++ sy [46] :: nmT nm.data.toList :: sy [40] :: (commasT ((l.map fun e => (Sy.level e, toks e)).map Prod.snd) ++ [sy [41]]))) ++ ts = _
      rw [List.map_map, show (Prod.snd ∘ fun e => (Sy.level e, toks e)) = toks from rfl]
      simp
  | print x hx =>
    intro s ts hs hl
    have e := lx_kw (w := [112, 114, 105, 110, 116]) (by decide) (sep_sp _) (lx_sp (lx_expr x hx s ts hs hl))
    refine e.cast ?_ ?_
    · rw [Sy.texts, Sy.texts]
      show ([112, 114, 105, 110, 116, 32] ++ Sy.text x) ++ s = _
      simp
    · rw [tokss, tokss]
      rfl
  | move x y hx hy =>
    intro s ts hs hl
    have e1 := lx_kw (w := [116, 111]) (by decide) (sep_sp _) (lx_sp (lx_expr y hy s ts hs hl))
    have e := lx_kw (w := [109, 111, 118, 101]) (by decide) (sep_sp _) (lx_sp (lx_expr x hx _ _ (sep_sp _) (lx_sp e1)))
    refine e.cast ?_ ?_
    · rw [Sy.texts, Sy.texts, Sy.texts]
      show ([109, 111, 118, 101, 32] ++ Sy.text x ++ [32, 116, 111, 32] ++ Sy.text y) ++ s = _
      simp
    · rw [tokss, tokss, tokss]
      show (kw [109, 111, 118, 101] :: (toks x ++ kw [116, 111] :: toks y)) ++ ts = _
      simp
  | watch nm x y hn hx hy =>
    intro s ts hs hl
    have e0 := lx_expr y hy _ _ (sep_cons s (show Lex.wordc 41 = false by decide) (by decide)) (lx_one (c := 41) (by decide) (by decide) hl)
    have e1 := lx_kw (w := [98, 121]) (by decide) (sep_sp _) (lx_sp (lx_var hn (sep_cons _ (show Lex.wordc 40 = false by decide) (by decide)) (lx_one (c := 40) (by decide) (by decide) e0)))
    have e := lx_kw (w := [119, 97, 116, 99, 104]) (by decide) (sep_sp _) (lx_sp (lx_expr x hx _ _ (sep_sp _) (lx_sp e1)))
    refine e.cast ?_ ?_
    · rw [Sy.texts, Sy.texts, Sy.texts]
      show ([119, 97, 116, 99, 104, 32] ++ Sy.text x ++ [32, 98, 121, 32] ++ nm.data.toList ++ [40] ++ Sy.text y ++ [41]) ++ s = _
      simp
    · rw [tokss, tokss, tokss]
      show (kw [119, 97, 116, 99, 104] :: (toks x ++ kw [98, 121] :: nmT nm.data.toList :: sy [40] :: (toks y ++ [sy [41]]))) ++ ts = _
      simp
  | ret =>
    intro s ts hs hl
    exact lx_kw (w := [114, 101, 116, 117, 114, 110]) (by decide) hs hl
/-! ### statements -/
theorem lx_head {w : Bytes} (hw : w ∈ Lex.keywords) {x : E} (hx : validE x = true) : LxT (w ++ 32 :: (Sy.text x ++ [32, 123])) (kw w :: (toks x ++ [sy [123]])) := fun s ts _ hl => by
  have e1 := lx_one (c := 123) (by decide) (by decide) hl
  have e := lx_kw hw (sep_sp _) (lx_sp (lx_expr x hx _ _ (sep_sp _) (lx_sp e1)))
  refine e.cast ?_ ?_ <;> simp
theorem lx_close : LxT [125] [sy [125]] := fun _ _ _ hl => lx_one (c := 125) (by decide) (by decide) hl
theorem lx_else : LxT [125, 32, 101, 108, 115, 101, 32, 123] [sy [125], kw [101, 108, 115, 101], sy [123]] := fun s ts _ hl => by
  have e1 := lx_one (c := 123) (by decide) (by decide) hl
  exact lx_one (c := 125) (by decide) (by decide) (lx_sp (lx_kw (w := [101, 108, 115, 101]) (by decide) (sep_sp _) (lx_sp e1)))
abbrev LxL (x : Bytes) (a : List B) : Prop := ∀ s ts, Lx s ts → Lx (x ++ s) (a ++ ts)
theorem lxl_line {d : Nat} {x : Bytes} {a : List B} (h : LxT x a) : LxL (Sy.line d x) a := fun _ _ hl => lx_line h hl
theorem LxL.app {x y : Bytes} {a b : List B} (h : LxL x a) (h2 : LxL y b) : LxL (x ++ y) (a ++ b) := fun s ts hl => by
  rw [List.append_assoc, List.append_assoc]
  exact h _ _ (h2 _ _ hl)
theorem LxL.nil : LxL [] [] := fun _ _ h => h
theorem LxL.cast {x y : Bytes} {a b : List B} (h : LxL x a) (e : y = x) (e2 : b = a) : LxL y b := by rw [e, e2]; exact h
theorem lx_ss : ∀ (d : Nat) (l : List S), (∀ s ∈ l, ∀ d, LxL (Sy.stmt d s) (tokS s)) → LxL (Sy.stmts d l) (tokSs l)
  | d, [], _ => by rw [Sy.stmts, tokSs]; exact LxL.nil
  | d, s :: r, h => by
    rw [Sy.stmts, tokSs]
    exact (h s (by simp) d).app (lx_ss d r fun x hx => h x (by simp [hx]))
theorem lxS_all : ∀ (n : Nat) (s : S), Sy.sizeS s ≤ n → validS s = true → ∀ d, LxL (Sy.stmt d s) (tokS s)
  | 0, s, h, _ => by have : 0 < Sy.sizeS s := by (cases s; rw [Sy.sizeS]; omega)
                     omega
  | n + 1, s, h, hv => by
    intro d
    have key : ∀ {k : Int} {nm : ByteArray} {x : List E} {b l : List S}, s = .mk k nm x b l → (∀ t ∈ b, validS t = true) → (∀ t ∈ l, validS t = true) → (∀ d, LxL (Sy.stmts d b) (tokSs b)) ∧ ∀ d, LxL (Sy.stmts d l) (tokSs l) := fun e hb hl => by
      subst e
      rw [Sy.sizeS] at h
      exact ⟨fun d => lx_ss d _ fun t ht => lxS_all n t (by have := size_in ht; omega) (hb t ht), fun d => lx_ss d _ fun t ht => lxS_all n t (by have := size_in ht; omega) (hl t ht)⟩
    have plain : s.kind ≠ 3 → s.kind ≠ 4 → LxL (Sy.stmt d s) (tokS s) := fun h3 h4 => by
      have hsm := lx_simple s (formS_of s hv) h3 h4
      obtain ⟨k, nm, x, b, l⟩ := s
      have h3 : ¬ k = 3 := h3
      have h4 : ¬ k = 4 := h4
      rw [Sy.stmt, tokS]
      unfold Sy.stmtT stmtK
      rw [if_neg h3, if_neg h4, if_neg h3, if_neg h4]
      exact lxl_line (lx_semi hsm)
    have hf := formS_of s hv
    generalize hs0 : s = s0 at hf
    cases hf with
    | cond x b l hx hb hl =>
      obtain ⟨h1, h2⟩ := key hs0 hb hl
      rw [Sy.stmt, tokS, Sy.texts, Sy.texts, tokss, tokss]
      have e0 := lxl_line (d := d) (lx_head (w := [105, 102]) (by decide) hx)
      have e3 := lxl_line (d := d) lx_close
      cases l with
      | nil =>
        refine (e0.app ((h1 (d + 1)).app e3)).cast ?_ ?_
        · show Sy.line d ([105, 102, 32] ++ Sy.text x ++ [32, 123]) ++ Sy.stmts (d + 1) b ++ [] ++ Sy.line d [125] = _
          simp
        · show kw [105, 102] :: (toks x ++ sy [123] :: (tokSs b ++ [sy [125]])) = _
          simp
      | cons t r =>
        refine (e0.app ((h1 (d + 1)).app ((lxl_line (d := d) lx_else).app ((h2 (d + 1)).app e3)))).cast ?_ ?_
        · show Sy.line d ([105, 102, 32] ++ Sy.text x ++ [32, 123]) ++ Sy.stmts (d + 1) b ++ (Sy.line d [125, 32, 101, 108, 115, 101, 32, 123] ++ Sy.stmts (d + 1) (t :: r)) ++ Sy.line d [125] = _
          simp
        · show kw [105, 102] :: (toks x ++ sy [123] :: (tokSs b ++ sy [125] :: kw [101, 108, 115, 101] :: sy [123] :: (tokSs (t :: r) ++ [sy [125]]))) = _
          simp
    | loop x b hx hb =>
      have h1 := (key hs0 hb (fun _ h => by cases h)).1
      rw [Sy.stmt, tokS, Sy.texts, Sy.texts, tokss, tokss]
      refine ((lxl_line (d := d) (lx_head (w := [119, 104, 105, 108, 101]) (by decide) hx)).app ((h1 (d + 1)).app (lxl_line (d := d) lx_close))).cast ?_ ?_
      · show Sy.line d ([119, 104, 105, 108, 101, 32] ++ Sy.text x ++ [32, 123]) ++ Sy.stmts (d + 1) b ++ Sy.line d [125] = _
        simp
      · show kw [119, 104, 105, 108, 101] :: (toks x ++ sy [123] :: (tokSs b ++ [sy [125]])) = _
        simp
    | set k nm x hk hn hx =>
      subst hs0
      rcases hk with rfl | rfl
      · exact plain (show ¬ (0 : Int) = 3 by decide) (show ¬ (0 : Int) = 4 by decide)
      · exact plain (show ¬ (1 : Int) = 3 by decide) (show ¬ (1 : Int) = 4 by decide)
    | store nm x y hn hx hy => subst hs0; exact plain (show ¬ (2 : Int) = 3 by decide) (show ¬ (2 : Int) = 4 by decide)
    | send nm x l hn hx hl => subst hs0; exact plain (show ¬ (5 : Int) = 3 by decide) (show ¬ (5 : Int) = 4 by decide)
    | print x hx => subst hs0; exact plain (show ¬ (6 : Int) = 3 by decide) (show ¬ (6 : Int) = 4 by decide)
    | move x y hx hy => subst hs0; exact plain (show ¬ (7 : Int) = 3 by decide) (show ¬ (7 : Int) = 4 by decide)
    | watch nm x y hn hx hy => subst hs0; exact plain (show ¬ (8 : Int) = 3 by decide) (show ¬ (8 : Int) = 4 by decide)
    | ret => subst hs0; exact plain (by decide) (by decide)
theorem lx_block (d : Nat) (l : List S) (hv : validSs l = true) : LxL (Sy.stmts d l) (tokSs l) := by
  rw [validSs_all, List.all_eq_true] at hv
  exact lx_ss d l fun s hs d => lxS_all _ s (Nat.le_refl _) (hv s hs) d
/-! ### classes -/
theorem lx_flat {α : Type} (f : α → Bytes) (g : α → Toks) : ∀ l : List α, (∀ x ∈ l, LxL (f x) (g x)) → LxL (l.map f).flatten (l.map g).flatten
  | [], _ => LxL.nil
  | x :: r, h => (h x (by simp)).app (lx_flat f g r fun y hy => h y (by simp [hy]))
theorem lx_field (s : ByteArray) (h : varB s = true) : LxL (Sy.fieldT s) (fieldK s) := by
  refine lxl_line (d := 1) (x := [118, 97, 114, 32] ++ s.data.toList ++ [59]) (a := fieldK s) fun r ts _ hl => ?_
  have e := lx_kw (w := [118, 97, 114]) (by decide) (sep_sp _) (lx_sp (lx_var h (sep_cons _ (by decide) (by decide)) (lx_one (c := 59) (by decide) (by decide) hl)))
  refine e.cast ?_ ?_
  · simp
  · rfl
theorem lx_method (m : M) (h : validM m = true) : LxL (Sy.methodT m) (tokM m) := by
  rw [validM, Bool.and_eq_true, Bool.and_eq_true, List.all_eq_true] at h
  obtain ⟨⟨hn, hp⟩, hb⟩ := h
  have hps : LxT (Sy.commas (m.params.map (·.data.toList))) (paramsT m.params) := by
    have := lx_commasT (m.params.map fun p => (p.data.toList, [nmT p.data.toList])) fun x hx => by
      obtain ⟨p, hpm, rfl⟩ := List.mem_map.1 hx
      exact fun s ts hs hl => lx_var (hp p hpm) hs hl
    rw [List.map_map, List.map_map] at this
    exact this
  have h0 : LxT ([111, 110, 32] ++ m.name.data.toList ++ [40] ++ Sy.commas (m.params.map (·.data.toList)) ++ [41, 32, 123]) (kw [111, 110] :: nmT m.name.data.toList :: sy [40] :: (paramsT m.params ++ [sy [41], sy [123]])) := fun s ts _ hl => by
    have e1 := lx_one (c := 41) (by decide) (by decide) (lx_sp (lx_one (c := 123) (by decide) (by decide) hl))
    have e2 := hps _ _ (sep_cons _ (show Lex.wordc 41 = false by decide) (by decide)) e1
    have e := lx_kw (w := [111, 110]) (by decide) (sep_sp _) (lx_sp (lx_var hn (sep_cons _ (show Lex.wordc 40 = false by decide) (by decide)) (lx_one (c := 40) (by decide) (by decide) e2)))
    refine e.cast ?_ ?_
    · simp
    · simp
  refine ((lxl_line (d := 1) h0).app ((lx_block 2 m.body hb).app (lxl_line (d := 1) lx_close))).cast ?_ ?_
  · unfold Sy.methodT
    simp
  · unfold tokM
    simp
theorem lx_class (c : C) (h : validC c = true) : LxL (Sy.classT c) (tokC c) := by
  rw [validC, Bool.and_eq_true, Bool.and_eq_true, Bool.and_eq_true, List.all_eq_true, List.all_eq_true] at h
  obtain ⟨⟨⟨hn, hf⟩, _⟩, hm⟩ := h
  have h0 : LxT ((if c.actor then [97, 99, 116, 111, 114, 32] else [114, 101, 99, 111, 114, 100, 32]) ++ c.name.data.toList ++ [32, 123]) [kw (if c.actor then [97, 99, 116, 111, 114] else [114, 101, 99, 111, 114, 100]), clT c.name.data.toList, sy [123]] := fun s ts _ hl => by
    have e2 := lx_sp (lx_cls hn (sep_sp _) (lx_sp (lx_one (c := 123) (by decide) (by decide) hl)))
    cases c.actor with
    | true =>
      refine (lx_kw (w := [97, 99, 116, 111, 114]) (by decide) (sep_sp _) e2).cast ?_ ?_
      · simp
      · rfl
    | false =>
      refine (lx_kw (w := [114, 101, 99, 111, 114, 100]) (by decide) (sep_sp _) e2).cast ?_ ?_
      · simp
      · rfl
  refine ((lxl_line (d := 0) h0).app ((lx_flat _ _ c.fields fun s hs => lx_field s (hf s hs)).app ((lx_flat _ _ c.methods fun m hmm => lx_method m (hm m hmm)).app (lxl_line (d := 0) lx_close)))).cast ?_ ?_
  · unfold Sy.classT
    simp
  · unfold tokC
    simp
theorem lx_prog (l : List C) (h : validP l = true) : Lx (Sy.progT l) (tokP l) := by
  rw [validP, List.all_eq_true] at h
  have := lx_flat Sy.classT tokC l (fun c hc => lx_class c (h c hc)) [] [] (.nil rfl)
  rw [List.append_nil, List.append_nil] at this
  exact this
/-! ### one text, one tree -/
theorem Ok.det {α : Type} {p : Nat → R α} {a b : α} {r r2 : Toks} (h : Ok p a r) (h2 : Ok p b r2) : a = b := by
  obtain ⟨F, h⟩ := h
  obtain ⟨G, h2⟩ := h2
  have e := (h (F + G) (by omega)).symm.trans (h2 (F + G) (by omega))
  injection e
theorem expr_inj (a b : E) (ha : validE a = true) (hb : validE b = true) (h : Sy.text a = Sy.text b) : a = b := by
  have la := lx_expr a ha [] [] sep_nil (.nil rfl)
  have lb := lx_expr b hb [] [] sep_nil (.nil rfl)
  rw [← h] at lb
  have e := la.det lb
  have ra := whole (rt_expr a ha) (rest := []) ⟨rfl, rfl, fun _ _ _ _ => rfl⟩
  have rb := whole (rt_expr b hb) (rest := []) ⟨rfl, rfl, fun _ _ _ _ => rfl⟩
  rw [← e] at rb
  exact ra.det rb
theorem prog_inj (a b : List C) (ha : validP a = true) (hb : validP b = true) (h : Sy.progT a = Sy.progT b) : a = b := by
  have la := lx_prog a ha
  have lb := lx_prog b hb
  rw [← h] at lb
  have e := la.det lb
  have ra := rt_prog a ha
  have rb := rt_prog b hb
  rw [← e] at rb
  exact ra.det rb
end Pa
end Go.Proofs.YtlgfickhkejdjaaGreatDoor
