/-
  A shorter name for hiding a fact.
-/
import Derived.Lib.Hide
import Derived.Test.YtcnmfcgmnkncaaaGreatDoorProg
namespace Go.Proofs.YtcnmfcgmnkncaaaGreatDoor
theorem zh {p:Prop} (h:p):RowKit.Hid p:=h
abbrev BA:=ByteArray
theorem kA {α:Type _} [BEq α] [LawfulBEq α] {a b:α}:(a == b)=false↔a≠b:=beq_eq_false_iff_ne
theorem kB {α:Type _} {l:List α} {i:Nat} (h:i<l.length):l[i]? =some l[i]:=List.getElem?_eq_getElem h
theorem kC {c:Prop} {h:Decidable c} (hnc:¬c) {α:Sort _} {t e:α}:ite c t e=e:=if_neg hnc
theorem kD {c:Prop} {h:Decidable c} (hc:c) {α:Sort _} {t e:α}:ite c t e=t:=if_pos hc
theorem kE {p:Prop} [Decidable p] (h:¬p):decide p=false:=decide_eq_false h
theorem kF (b:Bool):(true && b)=b:=Bool.true_and b
theorem kG {n m k:Nat} (h:n≤m) (g:m≤k):n≤k:=Nat.le_trans h g
theorem kH {α:Type _} {a:α} {l:List α}:a∈a::l:=List.mem_cons_self
theorem kI {α:Type _} {a:α} {l:List α}:(a::l).length=l.length+1:=rfl
theorem kJ {α:Type _} {i:Nat} {a:α} {l:List α}:l[i]? =some a↔∃h:i<l.length,l[i]=a:=List.getElem?_eq_some_iff
theorem kK {α:Type _} (y:α) {a:α} {l:List α} (h:a∈l):a∈y::l:=List.mem_cons_of_mem y h
theorem kL (n:Nat):n≤n:=Nat.le_refl n
theorem kM {α:Type _} {l:List α} {i:Nat} {a:α} (h:l[i]? =some a):a∈l:=List.mem_of_getElem? h
theorem kN {α:Type _} {l m:List α}:(l++m).length=l.length+m.length:=List.length_append
theorem kO (n:Nat):0≤n:=Nat.zero_le n
theorem kP {n m k:Nat} (h:n<m) (g:m≤k):n<k:=Nat.lt_of_lt_of_le h g
theorem kQ {α:Type _}:([]:List α).length=0:=rfl
theorem kR {α:Type _} {i:Nat} {l:List α} (h:l.length≤i):l.take i=l:=List.take_of_length_le h
theorem kS {p:Prop} [Decidable p] (h:p):decide p=true:=decide_eq_true h
theorem kT {α:Type _} {a b:α}:a∈[b]↔a=b:=List.mem_singleton
theorem kU {α:Type _} {a:α} {s t:List α}:a∈s++t↔a∈s∨a∈t:=List.mem_append
theorem kV {α:Type _} {b:α} {l:List α} {a:α}:a∈b::l↔a=b∨a∈l:=List.mem_cons
theorem kW (a b:Bool):((a && b)=true)=(a=true∧b=true):=Bool.and_eq_true a b
theorem kX {α:Type _} [BEq α] [LawfulBEq α] {a b:α}:(a == b)=true↔a=b:=beq_iff_eq
end Go.Proofs.YtcnmfcgmnkncaaaGreatDoor
