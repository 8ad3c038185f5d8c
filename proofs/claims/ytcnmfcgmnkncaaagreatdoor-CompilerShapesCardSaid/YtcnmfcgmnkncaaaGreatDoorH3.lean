/-
  Several texts in one: TreeOpen, CoCardBase.
-/
import Derived.Test.YtcnmfcgmnkncaaaGreatDoorG1
import Derived.Below
import Derived.Deep.Slices
import Derived.Deep.Fields
import Derived.ChangeSame
import Derived.Test.YtcnmfcgmnkncaaaGreatDoorG31
import Derived.Test.YtcnmfcgmnkncaaaGreatDoorG32
import Derived.Test.YtcnmfcgmnkncaaaGreatDoorG24
import Derived.Test.YtcnmfcgmnkncaaaGreatDoorG23
import Derived.Test.YtcnmfcgmnkncaaaGreatDoorG20
import Derived.Test.YtcnmfcgmnkncaaaGreatDoorG19
import Derived.Test.YtcnmfcgmnkncaaaGreatDoorG18
import Derived.Test.YtcnmfcgmnkncaaaGreatDoorG17
import Derived.Test.YtcnmfcgmnkncaaaGreatDoorG16
import Derived.Test.YtcnmfcgmnkncaaaGreatDoorG5
import Derived.Test.YtcnmfcgmnkncaaaGreatDoorG4
import Derived.Test.YtcnmfcgmnkncaaaGreatDoorG3
import Derived.Test.YtcnmfcgmnkncaaaGreatDoorRows
import Derived.WalkKit
import Derived.WalkSpells
import Derived.WalkLawsBesides
import Derived.Lib.Hide
import Derived.Lib.Strings
import Derived.Deep.RegionHeld3
import Derived.Deep.QuietTactic
import Derived.BigQuiet
import Derived.IntWalk
import Derived.Laws.StructEq
import Derived.Shelf.Strings.OnBuilder
import Derived.Shelf.Strings.Trim
import Derived.Shelf.Small.Strs
import Derived.Shelf.Strings.Prefix
import Derived.Shelf.Strings.Search3
import Derived.Shelf.Strconv.ParseIntPublic10
import Derived.Shelf.Slices.Turned
import Derived.Shelf.Slices.Clone
import Derived.Test.YtcnmfcgmnkncaaaGreatDoorProg
import Derived.Shelf.Strings.SlTrimAscii
import Derived.Shelf.Spec.SearchS
import Derived.Lib.ParseIntB
import Derived.Maps.Own
import Derived.Maps.Views
import Derived.StillTailTactics
import Derived.Test.YtcnmfcgmnkncaaaGreatDoorG2
import Derived.Maps.OwnSet
import Derived.StringKeys
import Derived.OneCell
import Derived.Test.YtcnmfcgmnkncaaaGreatDoorH1
import Derived.Test.YtcnmfcgmnkncaaaGreatDoorG8
import Derived.Test.YtcnmfcgmnkncaaaGreatDoorG7
import Derived.Ground.SlmcProg
import Derived.Shelf.SlMaps.Clone
import Derived.Deep.DeepCutAuto
import Derived.Deep.CutBlock
import Derived.Deep.LoopGhost
import Derived.Laws.AppendOwn
import Derived.Laws.AppendOwnNone
import Derived.Test.YtcnmfcgmnkncaaaGreatDoorG22
import Derived.Test.YtcnmfcgmnkncaaaGreatDoorG21
import Derived.Laws.EntriesVeiled
import Derived.Test.YtcnmfcgmnkncaaaGreatDoorCards
import Derived.ProofKit
import Derived.OpenShut
import Derived.SliceStrings
import Derived.LaidLaws
import Derived.Carry
import Derived.WideKeyArgs
import Derived.Test.YtcnmfcgmnkncaaaGreatDoorTie
import Derived.Deep.DeepHandedRow
import Derived.Deep.DeepWitnessRowRef
import Derived.Lib.LaidTab
import Derived.Lib.SmallJoins
namespace Go.Proofs.YtcnmfcgmnkncaaaGreatDoor
open Go.RowKit Go.Deep Go.ChangeShapes
section
variable {H:Type} {enc:TypeId × Value→H} {P:Program} {w:World} {base:Nat} {spare:Nat→Bool} {held:Bool}
variable {tE tsE tInt tI64 tStr tBool:TypeId}
variable {tS tsS:TypeId}
theorem open_stmt_cells (T:TypesS P tS tsS tE tsE tInt tI64 tStr tBool) {fuel:Nat} {cs:List Value} {x:DataW H × List MemPlace} (h:DataW.trod enc P w base spare held fuel tS cs=some x):
 ∃n k s a b c y1 y2 y3,fuel=n+1∧cs= [.int .i64 k,.string s,a,b,c]∧Tr.I64 k∧s.size≤maxLen∧DataW.trod enc P w base spare held n tsE [a]=some y1∧DataW.trod enc P w base spare held n tsS [b]=some y2∧DataW.trod enc P w base spare held n tsS [c]=some y3:=by
 obtain⟨fs,h1,h2,h3⟩:=T.stS
 have hfs:fs.size=5:=by
  have:=congrArg List.length h3
  simpa using this
 obtain⟨n,hn,hl,hf⟩:=fields_one h1 h2 (by rw [T.sizeS,hfs]) h
 rw [hfs] at hl
 obtain⟨f0,g0,e0⟩:=field_of h3 (j:=0) rfl
 obtain⟨f1,g1,e1⟩:=field_of h3 (j:=1) rfl
 obtain⟨f2,g2,e2⟩:=field_of h3 (j:=2) rfl
 obtain⟨f3,g3,e3⟩:=field_of h3 (j:=3) rfl
 obtain⟨f4,g4,e4⟩:=field_of h3 (j:=4) rfl
 obtain⟨v0,y0,c0,t0⟩:=hf 0 f0 g0
 obtain⟨v1,y1,c1,t1⟩:=hf 1 f1 g1
 obtain⟨v2,y2,c2,t2⟩:=hf 2 f2 g2
 obtain⟨v3,y3,c3,t3⟩:=hf 3 f3 g3
 obtain⟨v4,y4,c4,t4⟩:=hf 4 f4 g4
 rw [e0] at t0;rw [e1] at t1;rw [e2] at t2;rw [e3] at t3;rw [e4] at t4
 obtain⟨k,k1,_,k2⟩:=DataW.trod_int T.int t0
 obtain⟨s,s1,_,s2⟩:=DataW.trod_string T.str t1
 cases k1;cases s1
 match cs,hl with
 | [u0,u1,u2,u3,u4],_=>
   simp at c0 c1 c2 c3 c4
   subst c0 c1 c2 c3 c4
   exact⟨n,k,s,_,_,_,y2,y3,y4,hn,rfl,i64_of k2,s2,t2,t3,t4⟩
theorem open_stmts (T:TypesS P tS tsS tE tsE tInt tI64 tStr tBool):∀(fuel:Nat) {cs:List Value} {x:DataW H × List MemPlace},DataW.trod enc P w base spare held fuel tsS cs=some x→∃v l,cs= [v]∧SlS w v l:=by
 intro fuel
 induction fuel using Nat.strongRecOn with
 |ind fuel ih=>
  intro cs x h
  rcases elems_of T.slS T.sizeS h with rfl|⟨a,len,cap,n,rfl,rfl,hl,hm,hel⟩
  ·exact⟨_,[],rfl,.nil _ _⟩
  ·have key:∀i,i<len→∃(z:Tr.S × Value × Value × Value),CellsS w a.block (a.off+i*5) z.1 z.2.1 z.2.2.1 z.2.2.2∧BdS z.1∧SlE w z.2.1 z.1.exprs∧SlS w z.2.2.1 z.1.body∧SlS w z.2.2.2 z.1.els:=by
    intro i hi
    obtain⟨cs',y,hcl,hat,ht⟩:=hel i hi
    obtain⟨n2,k,s,v1,v2,v3,y1,y2,y3,hn2,rfl,w1,w4,ht1,ht2,ht3⟩:=open_stmt_cells T ht
    obtain⟨u1,l1,hv1,hs1⟩:=open_exprs T.toTypesE n2 ht1
    obtain⟨u2,l2,hv2,hs2⟩:=ih n2 (by omega) ht2
    obtain⟨u3,l3,hv3,hs3⟩:=ih n2 (by omega) ht3
    cases hv1;cases hv2;cases hv3
    obtain⟨cs0,y0,hcl0,hat0,_⟩:=hel 0 (by omega)
    have hz:∃u,w.cell? (a.add 0)=some u:=by
     have:=hat0 0 (by omega)
     rw [Nat.zero_mul,Nat.zero_add,List.getElem?_eq_getElem (by omega)] at this
     exact⟨_,this⟩
    have at_:∀j u,j<5→([Value.int .i64 k,.string s,v1,v2,v3]:List Value)[j]? =some u→w.cell? ⟨a.block,a.off+i*5+j,none⟩=some u:=by
     intro j u hj hu
     have:=addr_at ((hat j hj).trans hu) hz
     rw [←Nat.add_assoc] at this
     exact this
    exact⟨(.mk k s l1 l2 l3,v1,v2,v3),⟨at_ 0 _ (by omega) rfl,at_ 1 _ (by omega) rfl,at_ 2 _ (by omega) rfl,at_ 3 _ (by omega) rfl,at_ 4 _ (by omega) rfl⟩,⟨w1,w4⟩,hs1,hs2,hs3⟩
   haveI:Inhabited (Tr.S × Value × Value × Value):=⟨(.mk 0 ⟨#[]⟩ [] [] [],undef,undef,undef)⟩
   obtain⟨F,hF⟩:=choose_lt key
   by_cases h0:len=0
   ·subst h0;exact⟨_,[],rfl,.nil _ _⟩
   ·obtain⟨cs0,y0,hcl0,hat0,_⟩:=hel 0 (by omega)
    have hz:=hat0 0 (by omega)
    rw [Nat.zero_mul,Nat.zero_add,List.getElem?_eq_getElem (by omega)] at hz
    have ha:=add_plain' hz
    have hgl:∀j e,((List.range len).map fun i=>(F i).1)[j]? =some e→j<len∧e=(F j).1:=by
     intro j e hj
     have hlt:j<len:=by
      have:=(List.getElem?_eq_some_iff.1 hj).1
      simpa using this
     rw [List.getElem?_map,List.getElem?_range hlt] at hj
     exact⟨hlt,by cases hj;rfl⟩
    have hlen:((List.range len).map fun i=>(F i).1).length=len:=by simp
    refine⟨.slice (some a) len cap,(List.range len).map fun i=>(F i).1,rfl,?_⟩
    have:=SlS.row (w:=w) a.block a.off cap ((List.range len).map fun i=>(F i).1) (fun i=>(F i).2.1) (fun i=>(F i).2.2.1) (fun i=>(F i).2.2.2) (by omega) hm
     (fun j e hj=>by obtain⟨h1,rfl⟩:=hgl j e hj;exact⟨(hF j h1).1,(hF j h1).2.1⟩) (fun j e hj=>by obtain⟨h1,rfl⟩:=hgl j e hj;exact(hF j h1).2.2.1)
     (fun j e hj=>by obtain⟨h1,rfl⟩:=hgl j e hj;exact(hF j h1).2.2.2.1) (fun j e hj=>by obtain⟨h1,rfl⟩:=hgl j e hj;exact(hF j h1).2.2.2.2)
    rw [hlen,←ha] at this
    exact this
theorem row_of {α:Type} [Inhabited α] {k len:Nat} {a:Addr} {R:Nat→Nat→α→Prop} (hk:0<k) (hel:∀i,i<len→∃cs':List Value,cs'.length=k∧(∀j,j<k→w.cell? (a.add (i*k+j))=cs'[j]?)∧
 ∃z:α,∀b o,(∀j u,j<k→cs'[j]? =some u→w.cell? ⟨b,o+i*k+j,none⟩=some u)→R b (o+i*k) z):
 ∃F:List α,F.length=len∧∀j z,F[j]? =some z→a=⟨a.block,a.off,none⟩∧a.block<w.heap.size∧R a.block (a.off+j*k) z:=by
 have key:∀i,i<len→∃z:α,a=⟨a.block,a.off,none⟩∧a.block<w.heap.size∧R a.block (a.off+i*k) z:=by
  intro i hi
  obtain⟨cs0,hcl0,hat0,_⟩:=hel 0 (by omega)
  have hz:=hat0 0 (by omega)
  rw [Nat.zero_mul,Nat.zero_add,List.getElem?_eq_getElem (by omega)] at hz
  have ha:=add_plain' hz
  obtain⟨cs',hcl,hat,z,hR⟩:=hel i hi
  refine⟨z,ha,?_,hR a.block a.off fun j u hj hu=>?_⟩
  ·have:=addr_at hz ⟨_,hz⟩;exact cell_lt' this
  ·have:=addr_at ((hat j hj).trans hu) ⟨_,hz⟩
   rw [←Nat.add_assoc] at this
   exact this
 obtain⟨F,hF⟩:=choose_lt key
 refine⟨(List.range len).map F,by simp,fun j z hj=>?_⟩
 have hlt:j<len:=by
  have:=(List.getElem?_eq_some_iff.1 hj).1
  simpa using this
 rw [List.getElem?_map,List.getElem?_range hlt] at hj
 cases hj
 exact hF j hlt
variable {tP tC tsC tM tsM tsStr:TypeId}
theorem open_strs' (hs:P.underlying tsStr=some (.slice tStr)) (hc:P.cellsOf tStr=1) (ht:P.underlying tStr=some .string) {fuel:Nat} {cs:List Value} {x:DataW H × List MemPlace} (h:DataW.trod enc P w base spare held fuel tsStr cs=some x):∃v l,cs= [v]∧SlStr w v l:=by
 rcases elems_of hs hc h with rfl|⟨a,len,cap,n,rfl,rfl,hl,hm,hel⟩
 ·exact⟨_,[],rfl,_,_,rfl,Nat.zero_le _,fun h=>absurd rfl h,fun j s hj=>by simp at hj⟩
 ·haveI:Inhabited ByteArray:=⟨⟨#[]⟩⟩
  obtain⟨F,hF,hr⟩:=row_of (w:=w) (a:=a) (len:=len) (k:=1) (R:=fun b o s=>s.size≤maxLen∧w.cell? ⟨b,o,none⟩=some (.string s)) (by omega) (fun i hi=>by
   obtain⟨cs',y,hcl,hat,ht'⟩:=hel i hi
   obtain⟨s,rfl,_,hsz⟩:=DataW.trod_string ht ht'
   exact⟨_,hcl,hat,s,fun b o hc=>⟨hsz,hc 0 _ (by omega) rfl⟩⟩)
  refine⟨_,F,rfl,some a,cap,by rw [hF],by omega,fun _=>⟨by omega,hm⟩,fun j s hj=>?_⟩
  obtain⟨h1,h2,h3,h4⟩:=hr j s hj
  rw [Nat.mul_one] at h4
  exact⟨h3,_,_,by rw [h1],h2,h4⟩
theorem open_methods (T:TypesC P tP tC tsC tM tsM tsStr tS tsS tE tsE tInt tI64 tStr tBool) {fuel:Nat} {cs:List Value} {x:DataW H × List MemPlace} (h:DataW.trod enc P w base spare held fuel tsM cs=some x):∃v l,cs= [v]∧SlM w v l:=by
 rcases elems_of T.slM T.sizeM h with rfl|⟨a,len,cap,n,rfl,rfl,hl,hm,hel⟩
 ·exact⟨_,[],rfl,_,_,rfl,Nat.zero_le _,fun h=>absurd rfl h,fun j s hj=>by simp at hj⟩
 ·haveI:Inhabited Tr.M:=⟨⟨⟨#[]⟩,[],[]⟩⟩
  obtain⟨F,hF,hr⟩:=row_of (w:=w) (a:=a) (len:=len) (k:=3) (R:=fun b o m=>m.name.size≤maxLen∧∃x y,CellsM w b o m x y∧SlStr w x m.params∧SlS w y m.body) (by omega) (fun i hi=>by
   obtain⟨cs',y,hcl,hat,ht'⟩:=hel i hi
   obtain⟨fs,h1,h2,h3⟩:=T.stM
   have hfs:fs.size=3:=by have:=congrArg List.length h3;simpa using this
   obtain⟨n2,hn,hl2,hf⟩:=fields_one h1 h2 (by rw [T.sizeM,hfs]) ht'
   obtain⟨f0,g0,e0⟩:=field_of h3 (j:=0) rfl
   obtain⟨f1,g1,e1⟩:=field_of h3 (j:=1) rfl
   obtain⟨f2,g2,e2⟩:=field_of h3 (j:=2) rfl
   obtain⟨v0,y0,c0,t0⟩:=hf 0 f0 g0
   obtain⟨v1,y1,c1,t1⟩:=hf 1 f1 g1
   obtain⟨v2,y2,c2,t2⟩:=hf 2 f2 g2
   rw [e0] at t0;rw [e1] at t1;rw [e2] at t2
   obtain⟨s,s1,_,s2⟩:=DataW.trod_string T.str t0
   obtain⟨u1,l1,hv1,hs1⟩:=open_strs' T.strs T.sizeStr T.str t1
   obtain⟨u2,l2,hv2,hs2⟩:=open_stmts T.toTypesS _ t2
   cases s1;cases hv1;cases hv2
   exact⟨cs',hcl,hat,⟨s,l1,l2⟩,fun b o hc=>⟨s2,_,_,⟨hc 0 _ (by omega) c0,hc 1 _ (by omega) c1,hc 2 _ (by omega) c2⟩,hs1,hs2⟩⟩)
  refine⟨_,F,rfl,some a,cap,by rw [hF],by omega,fun _=>⟨by omega,hm⟩,fun j s hj=>?_⟩
  obtain⟨h1,h2,h3,x,y,h4⟩:=hr j s hj
  exact⟨h3,_,_,x,y,by rw [h1],h2,h4⟩
theorem open_classes (T:TypesC P tP tC tsC tM tsM tsStr tS tsS tE tsE tInt tI64 tStr tBool) {fuel:Nat} {cs:List Value} {x:DataW H × List MemPlace} (h:DataW.trod enc P w base spare held fuel tsC cs=some x):∃v l,cs= [v]∧SlC w v l:=by
 rcases elems_of T.slC T.sizeC h with rfl|⟨a,len,cap,n,rfl,rfl,hl,hm,hel⟩
 ·exact⟨_,[],rfl,_,_,rfl,Nat.zero_le _,fun h=>absurd rfl h,fun j s hj=>by simp at hj⟩
 ·haveI:Inhabited Tr.C:=⟨⟨⟨#[]⟩,false,[],[]⟩⟩
  obtain⟨F,hF,hr⟩:=row_of (w:=w) (a:=a) (len:=len) (k:=4) (R:=fun b o m=>m.name.size≤maxLen∧∃x y,CellsC w b o m x y∧SlStr w x m.fields∧SlM w y m.methods) (by omega) (fun i hi=>by
   obtain⟨cs',y,hcl,hat,ht'⟩:=hel i hi
   obtain⟨fs,h1,h2,h3⟩:=T.stC
   have hfs:fs.size=4:=by have:=congrArg List.length h3;simpa using this
   obtain⟨n2,hn,hl2,hf⟩:=fields_one h1 h2 (by rw [T.sizeC,hfs]) ht'
   obtain⟨f0,g0,e0⟩:=field_of h3 (j:=0) rfl
   obtain⟨f1,g1,e1⟩:=field_of h3 (j:=1) rfl
   obtain⟨f2,g2,e2⟩:=field_of h3 (j:=2) rfl
   obtain⟨f3,g3,e3⟩:=field_of h3 (j:=3) rfl
   obtain⟨v0,y0,c0,t0⟩:=hf 0 f0 g0
   obtain⟨v1,y1,c1,t1⟩:=hf 1 f1 g1
   obtain⟨v2,y2,c2,t2⟩:=hf 2 f2 g2
   obtain⟨v3,y3,c3,t3⟩:=hf 3 f3 g3
   rw [e0] at t0;rw [e1] at t1;rw [e2] at t2;rw [e3] at t3
   obtain⟨s,s1,_,s2⟩:=DataW.trod_string T.str t0
   obtain⟨bb,b1,_⟩:=DataW.trod_bool T.bool t1
   obtain⟨u1,l1,hv1,hs1⟩:=open_strs' T.strs T.sizeStr T.str t2
   obtain⟨u2,l2,hv2,hs2⟩:=open_methods T t3
   cases s1;cases b1;cases hv1;cases hv2
   exact⟨cs',hcl,hat,⟨s,bb,l1,l2⟩,fun b o hc=>⟨s2,_,_,⟨hc 0 _ (by omega) c0,hc 1 _ (by omega) c1,hc 2 _ (by omega) c2,hc 3 _ (by omega) c3⟩,hs1,hs2⟩⟩)
  refine⟨_,F,rfl,some a,cap,by rw [hF],by omega,fun _=>⟨by omega,hm⟩,fun j s hj=>?_⟩
  obtain⟨h1,h2,h3,x,y,h4⟩:=hr j s hj
  exact⟨h3,_,_,x,y,by rw [h1],h2,h4⟩
end
end Go.Proofs.YtcnmfcgmnkncaaaGreatDoor
namespace Go.Proofs.YtcnmfcgmnkncaaaGreatDoor
open Go.RowKit Go.ChangeShapes Go.WideShapes
set_option maxRecDepth 100000 in
theorem open_prog {H:Type} {enc:TypeId × Value→H} {W:World} {r:Reach} {b0:Nat} {base:Nat} {sp:Nat→Bool} {held:Bool} {v:Value} {d:DataW H} {p:List MemPlace} (hv:Value.okWide Tryz.prog W r b0 24 v) (h:DataW.Trod enc Tryz.prog W base sp held 24 v d p):
 ∃l a,v= .agg #[a]∧SlC W a l:=by
 obtain⟨fs,h1,h2,h3⟩:=typesC.stP
 have hfs:fs.size=1:=by have:=congrArg List.length h3;simpa using this
 obtain⟨cs,rfl,hsz⟩:=okWide_struct h1 hv
 obtain⟨fuel,hf⟩:=h
 obtain⟨n,hn,hl,hx⟩:=fields_one h1 h2 (by rw [typesC.sizeP,hfs]) hf
 obtain⟨f0,g0,e0⟩:=field_of h3 (j:=0) rfl
 obtain⟨v0,y0,c0,t0⟩:=hx 0 f0 g0
 rw [e0] at t0
 obtain⟨u,l,hu,hs⟩:=open_classes typesC t0
 cases hu
 refine⟨l,v0,?_,hs⟩
 have hz:cs.size=1:=hsz.trans typesC.sizeP
 congr 1
 apply Array.ext
 ·simp [hz]
 ·intro i h1 h2
  have hi:i=0:=by omega
  subst hi
  have hc:cs.toList[0]? =some v0:=by simpa [Value.cells] using c0
  rw [Array.getElem?_toList] at hc
  have:=(Array.getElem?_eq_some_iff.1 hc).2
  simpa using this
end Go.Proofs.YtcnmfcgmnkncaaaGreatDoor
