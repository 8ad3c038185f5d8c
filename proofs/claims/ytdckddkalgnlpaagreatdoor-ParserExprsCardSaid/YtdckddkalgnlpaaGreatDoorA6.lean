/-
  The parser as plain functions on lists of tokens without offsets. No program in sight.
-/
import Derived.Test.YtdckddkalgnlpaaGreatDoorA5
namespace Go.Proofs.YtdckddkalgnlpaaGreatDoor
namespace Pa
open Tr
abbrev Bytes := List UInt8
structure B where
 kind : Nat
 text : Bytes
 val : Nat
 deriving DecidableEq, Inhabited
abbrev Toks := List B
inductive R (α : Type) where
 | ok (a : α) (r : Toks)
 | bad (r : Toks)
 deriving DecidableEq
def R.bind {α β : Type} (x : R α) (f : α → Toks → R β) : R β :=
 match x with
 | .ok a r => f a r
 | .bad r => .bad r
def is (t : Bytes) : Toks → Bool
 | [] => false
 | x :: _ => x.text == t && (x.kind == 4 || x.kind == 5)
def expect (t : Bytes) (ts : Toks) : R Unit := if is t ts then .ok () ts.tail else .bad ts
def word (k : Nat) : Toks → R ByteArray
 | [] => .bad []
 | x :: r => if x.kind = k then .ok ⟨x.text.toArray⟩ r else .bad (x :: r)
def opOf (ops : List Int) (ts : Toks) : Option Int := ops.find? fun o => is (Sy.sym o) ts
def bin (o : Int) (a b : E) : E := .mk 10 o 0 ⟨#[]⟩ false [a, b]
def un (k : Int) (a : E) : E := .mk k 0 0 ⟨#[]⟩ false [a]
def fld (n : ByteArray) (a : E) : E := .mk 4 0 0 n false [a]
def leaf (k : Int) : E := .mk k 0 0 ⟨#[]⟩ false []
def num (n : Nat) : E := .mk 0 0 n ⟨#[]⟩ false []
def var (n : ByteArray) : E := .mk 3 0 0 n false []
def new (n : ByteArray) (a : Bool) (l : List E) : E := .mk 5 0 0 n a l
mutual
def pE : Nat → Nat → Toks → R E
 | 0, _, ts => .bad ts
 | f + 1, lv, ts =>
   if lv = 0 then (pE f 1 ts).bind fun a r => pL f 1 [12] a r
   else if lv = 1 then (pE f 2 ts).bind fun a r => pL f 2 [11] a r
   else if lv = 2 then (if is [110, 111, 116] ts then (pE f 2 ts.tail).bind fun a r => .ok (un 9 a) r else pE f 3 ts)
   else if lv = 3 then (pE f 4 ts).bind fun a r =>
    match opOf [5, 6, 7, 8, 9, 10] r with
    | some o => (pE f 4 r.tail).bind fun b r => .ok (bin o a b) r
    | none => .ok a r
   else if lv = 4 then (pE f 5 ts).bind fun a r => pL f 5 [0, 1] a r
   else if lv = 5 then (pE f 6 ts).bind fun a r => pL f 6 [2, 3, 4] a r
   else if lv = 6 then
    (if is [45] ts then (pE f 6 ts.tail).bind fun a r => .ok (un 8 a) r
     else if is [119, 101, 97, 107] ts then (pE f 6 ts.tail).bind fun a r => .ok (un 6 a) r
     else if is [103, 101, 116] ts then (pE f 6 ts.tail).bind fun a r => .ok (un 7 a) r
     else pE f 7 ts)
   else (pO f ts).bind fun a r => pF f a r
def pL : Nat → Nat → List Int → E → Toks → R E
 | 0, _, _, _, ts => .bad ts
 | f + 1, lv, ops, a, ts =>
   match opOf ops ts with
   | some o => (pE f lv ts.tail).bind fun b r => pL f lv ops (bin o a b) r
   | none => .ok a ts
def pF : Nat → E → Toks → R E
 | 0, _, ts => .bad ts
 | f + 1, a, ts => if is [46] ts then (word 2 ts.tail).bind fun n r => pF f (fld n a) r else .ok a ts
def pO : Nat → Toks → R E
 | 0, ts => .bad ts
 | _ + 1, [] => .bad []
 | f + 1, x :: r =>
   if x.kind = 1 then .ok (num x.val) r
   else if x.kind = 2 then .ok (var ⟨x.text.toArray⟩) r
   else if is [110, 105, 108] (x :: r) then .ok (leaf 1) r
   else if is [116, 104, 105, 115] (x :: r) then .ok (leaf 2) r
   else if is [40] (x :: r) then (pE f 0 r).bind fun a r => (expect [41] r).bind fun _ r => .ok a r
   else if is [110, 101, 119] (x :: r) then
    (word 3 r).bind fun n r => (pA f r).bind fun l r =>
     if is [97, 116] r then (pE f 6 r.tail).bind fun b r => .ok (new n true (l ++ [b])) r else .ok (new n false l) r
   else .bad (x :: r)
def pA : Nat → Toks → R (List E)
 | 0, ts => .bad ts
 | f + 1, ts => (expect [40] ts).bind fun _ r => if is [41] r then .ok [] r.tail else (pE f 0 r).bind fun a r => pM f [a] r
def pM : Nat → List E → Toks → R (List E)
 | 0, _, ts => .bad ts
 | f + 1, l, ts => if is [44] ts then (pE f 0 ts.tail).bind fun a r => pM f (l ++ [a]) r else (expect [41] ts).bind fun _ r => .ok l r
end
def pSend : Nat → E → ByteArray → Toks → R S
 | 0, _, _, ts => .bad ts
 | f + 1, a, n, ts => if is [46] ts then (word 2 ts.tail).bind fun m r => pSend f (fld n a) m r else (pA f ts).bind fun l r => .ok (.mk 5 n (a :: l) [] []) r
def pSet (f : Nat) (k : Int) (ts : Toks) : R S := (word 2 ts).bind fun n r => (expect [61] r).bind fun _ r => (pE f 0 r).bind fun e r => .ok (.mk k n [e] [] []) r
def pSimple (f : Nat) (ts : Toks) : R S :=
 if is [108, 101, 116] ts then pSet f 0 ts.tail
 else if is [115, 101, 110, 100] ts then (pO f ts.tail).bind fun a r => (expect [46] r).bind fun _ r => (word 2 r).bind fun n r => pSend f a n r
 else if is [112, 114, 105, 110, 116] ts then (pE f 0 ts.tail).bind fun e r => .ok (.mk 6 ⟨#[]⟩ [e] [] []) r
 else if is [109, 111, 118, 101] ts then (pE f 0 ts.tail).bind fun a r => (expect [116, 111] r).bind fun _ r => (pE f 0 r).bind fun b r => .ok (.mk 7 ⟨#[]⟩ [a, b] [] []) r
 else if is [119, 97, 116, 99, 104] ts then (pE f 0 ts.tail).bind fun a r => (expect [98, 121] r).bind fun _ r => (word 2 r).bind fun n r => (expect [40] r).bind fun _ r => (pE f 0 r).bind fun b r => (expect [41] r).bind fun _ r => .ok (.mk 8 n [a, b] [] []) r
 else if is [114, 101, 116, 117, 114, 110] ts then .ok (.mk 9 ⟨#[]⟩ [] [] []) ts.tail
 else if (ts.headD default).kind = 2 ∧ is [61] ts.tail = true then pSet f 1 ts
 else (pO (f + 1) ts).bind fun a r => (expect [46] r).bind fun _ r => (word 2 r).bind fun n r => (expect [61] r).bind fun _ r => (pE f 0 r).bind fun b r => .ok (.mk 2 n [a, b] [] []) r
mutual
def pS : Nat → Toks → R S
 | 0, ts => .bad ts
 | f + 1, ts =>
   if is [105, 102] ts then (pE f 0 ts.tail).bind fun e r => (pB f r).bind fun b r =>
    if is [101, 108, 115, 101] r then (pB f r.tail).bind fun l r => .ok (.mk 3 ⟨#[]⟩ [e] b l) r else .ok (.mk 3 ⟨#[]⟩ [e] b []) r
   else if is [119, 104, 105, 108, 101] ts then (pE f 0 ts.tail).bind fun e r => (pB f r).bind fun b r => .ok (.mk 4 ⟨#[]⟩ [e] b []) r
   else (pSimple f ts).bind fun s r => (expect [59] r).bind fun _ r => .ok s r
def pB : Nat → Toks → R (List S)
 | 0, ts => .bad ts
 | f + 1, ts => (expect [123] ts).bind fun _ r => pSs f [] r
def pSs : Nat → List S → Toks → R (List S)
 | 0, _, ts => .bad ts
 | f + 1, l, ts => if is [125] ts then .ok l ts.tail else (pS f ts).bind fun s r => pSs f (l ++ [s]) r
end
def pFields : Nat → List ByteArray → Toks → R (List ByteArray)
 | 0, _, ts => .bad ts
 | f + 1, l, ts => if is [118, 97, 114] ts then (word 2 ts.tail).bind fun n r => (expect [59] r).bind fun _ r => pFields f (l ++ [n]) r else .ok l ts
def pParam : Nat → List ByteArray → Toks → R (List ByteArray)
 | 0, _, ts => .bad ts
 | f + 1, l, ts => if is [44] ts then (word 2 ts.tail).bind fun n r => pParam f (l ++ [n]) r else (expect [41] ts).bind fun _ r => .ok l r
def pParams (f : Nat) (ts : Toks) : R (List ByteArray) := (expect [40] ts).bind fun _ r => if is [41] r then .ok [] r.tail else (word 2 r).bind fun n r => pParam f [n] r
def pMs : Nat → List M → Toks → R (List M)
 | 0, _, ts => .bad ts
 | f + 1, l, ts => if is [111, 110] ts then (word 2 ts.tail).bind fun n r => (pParams f r).bind fun p r => (pB f r).bind fun b r => pMs f (l ++ [⟨n, p, b⟩]) r else .ok l ts
def pC (f : Nat) (ts : Toks) : R C :=
 (if is [97, 99, 116, 111, 114] ts then (.ok () ts.tail : R Unit) else expect [114, 101, 99, 111, 114, 100] ts).bind fun _ r => (word 3 r).bind fun n r => (expect [123] r).bind fun _ r => (pFields f [] r).bind fun fs r =>
  (if is [97, 99, 116, 111, 114] ts then pMs f [] r else .ok [] r).bind fun ms r => (expect [125] r).bind fun _ r => .ok ⟨n, is [97, 99, 116, 111, 114] ts, fs, ms⟩ r
def pP : Nat → List C → Toks → R (List C)
 | 0, _, ts => .bad ts
 | f + 1, l, ts => if (ts.headD default).kind = 0 then .ok l ts else (pC f ts).bind fun c r => pP f (l ++ [c]) r
end Pa
end Go.Proofs.YtdckddkalgnlpaaGreatDoor
