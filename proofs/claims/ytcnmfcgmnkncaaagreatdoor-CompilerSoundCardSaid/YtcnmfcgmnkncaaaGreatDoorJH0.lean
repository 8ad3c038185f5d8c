/-
  A shorter name for hiding a fact.
-/
import Derived.Lib.Hide
import Derived.Test.YtcnmfcgmnkncaaaGreatDoorProg
namespace Go.Proofs.YtcnmfcgmnkncaaaGreatDoor
theorem zh {p:Prop} (h:p):RowKit.Hid p:=h
end Go.Proofs.YtcnmfcgmnkncaaaGreatDoor
