/-
  CoUses, CoShapes.
-/
import Derived.Test.YtcnmfcgmnkncaaaGreatDoorX17
namespace Go.Proofs.YtcnmfcgmnkncaaaGreatDoor
namespace Co
open Tr
def Both (g h:G):Prop:=Ext g h/\Inv h
theorem Ext.same {g h:G} (e:h.code=g.code):Ext g h:=⟨[],by rw [e,List.append_nil]⟩
theorem Inv.same {g h:G} (hi:Inv g) (e:h.code=g.code) (e2:h.names=g.names):Inv h:=⟨by rw [e,e2];exact hi.use,by rw [e2];exact hi.nodup⟩
theorem Both.nm {g h:G} (b:Both g h) (s:BA) {o:Int} (ho:named o=true) (y p q:Int):Both g (emit (name h s).1 o (name h s).2 y p q):=⟨b.1.trans ((Ext.name h s).trans (.emit ..)),b.2.named s ho _ _ _⟩
theorem zSF {cs:List C} {n:Nat} {r:List Nat} (h:Ck.check cs=n::r):n≠0/\n<=8:=by
 have hm:n∈Ck.check cs:=by rw [h];exact kH ..
 unfold Ck.check at hm
 split at hm
 ·obtain⟨f,_,rfl⟩:=List.mem_map.1 hm;unfold Ck.code
  repeat' split
  all_goals omega
 ·rw [kT.1 hm];omega
end Co
end Go.Proofs.YtcnmfcgmnkncaaaGreatDoor
