/-
  Several texts in one: CoOps, CoEff, CoKinds, CoExP, CoSndP, CoTgt.
-/
import Derived.Below
import Derived.Deep.Slices
import Derived.Deep.Fields
import Derived.ChangeSame
import Derived.Laws.AppendOwn
import Derived.Laws.Rows
import Derived.WalkKit
import Derived.OneCell
import Derived.Lib.Hide
import Derived.Laws.AppendOwnNone
import Derived.Laws.Bits64b
import Derived.WalkLawsBesides
import Derived.Deep.WholeRow
import Derived.Deep.DeepCutAuto
import Derived.Test.YtcnmfcgmnkncaaaGreatDoorS2
import Derived.WalkSpells
import Derived.Lib.Strings
import Derived.Deep.RegionHeld3
import Derived.Deep.QuietTactic
import Derived.BigQuiet
import Derived.IntWalk
import Derived.Laws.StructEq
import Derived.Shelf.Strings.OnBuilder
import Derived.Shelf.Strings.Trim
import Derived.Shelf.Small.Strs
import Derived.Shelf.Strings.Prefix
import Derived.Shelf.Strings.Search3
import Derived.Shelf.Strconv.ParseIntPublic10
import Derived.Shelf.Slices.Turned
import Derived.Shelf.Slices.Clone
import Derived.Shelf.Strings.SlTrimAscii
import Derived.Shelf.Spec.SearchS
import Derived.Lib.ParseIntB
import Derived.Maps.Own
import Derived.Maps.Views
import Derived.StillTailTactics
import Derived.OwnWalk
import Derived.Deep.LoopGhost
import Derived.RangeFuncNested
import Derived.RangeFuncBound
import Derived.RangeFuncCalls
import Derived.RangeFuncLeaves
import Derived.RangeFuncBox
import Derived.Shelf.Abstract
import Derived.Shelf.RegionOpen
import Derived.OwnWalkIn
import Derived.TacticsInMore
import Derived.LoopNIn
import Derived.LoopIn
import Derived.Maps.OwnSet
import Derived.Deep.RegionHeld
import Derived.Laws.ResultCell
import Derived.StringKeys
import Derived.Ground.SlmcProg
import Derived.Shelf.SlMaps.Clone
import Derived.Deep.CutBlock
import Derived.Laws.EntriesVeiled
import Derived.Lib.SliceRun
namespace Go.Proofs.YtcnmfcgmnkncaaaGreatDoor
namespace Cw
open Go.RowKit Go.Maps Pw
set_option maxRecDepth 100000
def opCells:Array Value:= #[.string ⟨#[112,117,115,104]⟩,.int .i64 2305843009213693951,.int .i64 0,.int .i64 (-2305843009213693952),.int .i64 0,.int .i64 1,.bool false,.func (.func 108) #[] #[],.string ⟨#[110,105,108]⟩,.int .i64 0,.int .i64 0,.int .i64 0,.int .i64 0,.int .i64 1,.bool false,.nilFunc,.string ⟨#[116,104,105,115]⟩,.int .i64 0,.int .i64 0,.int .i64 0,.int .i64 0,.int .i64 1,.bool false,.nilFunc,.string ⟨#[108,111,97,100]⟩,.int .i64 29,.int .i64 0,.int .i64 0,.int .i64 0,.int .i64 1,.bool false,.func (.func 108) #[] #[],.string ⟨#[115,116,111,114,101]⟩,.int .i64 29,.int .i64 0,.int .i64 0,.int .i64 1,.int .i64 0,.bool false,.func (.func 108) #[] #[],.string ⟨#[112,111,112]⟩,.int .i64 0,.int .i64 0,.int .i64 0,.int .i64 1,.int .i64 0,.bool false,.nilFunc,.string ⟨#[102,105,101,108,100]⟩,.int .i64 1023,.int .i64 0,.int .i64 0,.int .i64 1,.int .i64 1,.bool false,.func (.func 109) #[] #[],.string ⟨#[111,119,110]⟩,.int .i64 29,.int .i64 0,.int .i64 0,.int .i64 0,.int .i64 1,.bool false,.func (.func 108) #[] #[],.string ⟨#[115,101,116,102,105,101,108,100]⟩,.int .i64 1023,.int .i64 0,.int .i64 0,.int .i64 2,.int .i64 0,.bool false,.func (.func 109) #[] #[],.string ⟨#[115,101,116,111,119,110]⟩,.int .i64 29,.int .i64 0,.int .i64 0,.int .i64 1,.int .i64 0,.bool false,.func (.func 108) #[] #[],.string ⟨#[110,101,119]⟩,.int .i64 60,.int .i64 30,.int .i64 1,.int .i64 0,.int .i64 1,.bool true,.func (.func 110) #[] #[],.string ⟨#[110,101,119,97,116]⟩,.int .i64 60,.int .i64 30,.int .i64 1,.int .i64 1,.int .i64 1,.bool true,.func (.func 110) #[] #[],.string ⟨#[119,101,97,107]⟩,.int .i64 0,.int .i64 0,.int .i64 0,.int .i64 1,.int .i64 1,.bool false,.nilFunc,.string ⟨#[103,101,116]⟩,.int .i64 0,.int .i64 0,.int .i64 0,.int .i64 1,.int .i64 1,.bool false,.nilFunc,.string ⟨#[110,101,103]⟩,.int .i64 0,.int .i64 0,.int .i64 0,.int .i64 1,.int .i64 1,.bool false,.nilFunc,.string ⟨#[110,111,116]⟩,.int .i64 0,.int .i64 0,.int .i64 0,.int .i64 1,.int .i64 1,.bool false,.nilFunc,.string ⟨#[98,105,110,97,114,121]⟩,.int .i64 10,.int .i64 0,.int .i64 0,.int .i64 2,.int .i64 1,.bool false,.func (.func 111) #[] #[],.string ⟨#[116,114,117,116,104]⟩,.int .i64 0,.int .i64 0,.int .i64 0,.int .i64 1,.int .i64 1,.bool false,.nilFunc,.string ⟨#[106,117,109,112]⟩,.int .i64 4000,.int .i64 0,.int .i64 0,.int .i64 0,.int .i64 0,.bool false,.func (.func 108) #[] #[],.string ⟨#[106,117,109,112,102,97,108,115,101]⟩,.int .i64 4000,.int .i64 0,.int .i64 0,.int .i64 1,.int .i64 0,.bool false,.func (.func 108) #[] #[],.string ⟨#[106,117,109,112,116,114,117,101]⟩,.int .i64 4000,.int .i64 0,.int .i64 0,.int .i64 1,.int .i64 0,.bool false,.func (.func 108) #[] #[],.string ⟨#[115,101,110,100]⟩,.int .i64 1023,.int .i64 8,.int .i64 0,.int .i64 1,.int .i64 0,.bool true,.func (.func 112) #[] #[],.string ⟨#[112,114,105,110,116]⟩,.int .i64 0,.int .i64 0,.int .i64 0,.int .i64 1,.int .i64 0,.bool false,.nilFunc,.string ⟨#[109,111,118,101]⟩,.int .i64 0,.int .i64 0,.int .i64 0,.int .i64 2,.int .i64 0,.bool false,.nilFunc,.string ⟨#[119,97,116,99,104]⟩,.int .i64 1023,.int .i64 0,.int .i64 0,.int .i64 2,.int .i64 0,.bool false,.func (.func 109) #[] #[],.string ⟨#[114,101,116,117,114,110]⟩,.int .i64 0,.int .i64 0,.int .i64 0,.int .i64 0,.int .i64 0,.bool false,.nilFunc]
theorem zC2:opCells.size=208:=by kernel_rfl
theorem zLF:opCells.all (·.oneCell')=true:=by kernel_rfl
def opZero:Array Value:= #[.string ⟨#[]⟩,.int .i64 0,.int .i64 0,.int .i64 0,.int .i64 0,.int .i64 0,.bool false,.nilFunc,.string ⟨#[]⟩,.int .i64 0,.int .i64 0,.int .i64 0,.int .i64 0,.int .i64 0,.bool false,.nilFunc,.string ⟨#[]⟩,.int .i64 0,.int .i64 0,.int .i64 0,.int .i64 0,.int .i64 0,.bool false,.nilFunc,.string ⟨#[]⟩,.int .i64 0,.int .i64 0,.int .i64 0,.int .i64 0,.int .i64 0,.bool false,.nilFunc,.string ⟨#[]⟩,.int .i64 0,.int .i64 0,.int .i64 0,.int .i64 0,.int .i64 0,.bool false,.nilFunc,.string ⟨#[]⟩,.int .i64 0,.int .i64 0,.int .i64 0,.int .i64 0,.int .i64 0,.bool false,.nilFunc,.string ⟨#[]⟩,.int .i64 0,.int .i64 0,.int .i64 0,.int .i64 0,.int .i64 0,.bool false,.nilFunc,.string ⟨#[]⟩,.int .i64 0,.int .i64 0,.int .i64 0,.int .i64 0,.int .i64 0,.bool false,.nilFunc,.string ⟨#[]⟩,.int .i64 0,.int .i64 0,.int .i64 0,.int .i64 0,.int .i64 0,.bool false,.nilFunc,.string ⟨#[]⟩,.int .i64 0,.int .i64 0,.int .i64 0,.int .i64 0,.int .i64 0,.bool false,.nilFunc,.string ⟨#[]⟩,.int .i64 0,.int .i64 0,.int .i64 0,.int .i64 0,.int .i64 0,.bool false,.nilFunc,.string ⟨#[]⟩,.int .i64 0,.int .i64 0,.int .i64 0,.int .i64 0,.int .i64 0,.bool false,.nilFunc,.string ⟨#[]⟩,.int .i64 0,.int .i64 0,.int .i64 0,.int .i64 0,.int .i64 0,.bool false,.nilFunc,.string ⟨#[]⟩,.int .i64 0,.int .i64 0,.int .i64 0,.int .i64 0,.int .i64 0,.bool false,.nilFunc,.string ⟨#[]⟩,.int .i64 0,.int .i64 0,.int .i64 0,.int .i64 0,.int .i64 0,.bool false,.nilFunc,.string ⟨#[]⟩,.int .i64 0,.int .i64 0,.int .i64 0,.int .i64 0,.int .i64 0,.bool false,.nilFunc,.string ⟨#[]⟩,.int .i64 0,.int .i64 0,.int .i64 0,.int .i64 0,.int .i64 0,.bool false,.nilFunc,.string ⟨#[]⟩,.int .i64 0,.int .i64 0,.int .i64 0,.int .i64 0,.int .i64 0,.bool false,.nilFunc,.string ⟨#[]⟩,.int .i64 0,.int .i64 0,.int .i64 0,.int .i64 0,.int .i64 0,.bool false,.nilFunc,.string ⟨#[]⟩,.int .i64 0,.int .i64 0,.int .i64 0,.int .i64 0,.int .i64 0,.bool false,.nilFunc,.string ⟨#[]⟩,.int .i64 0,.int .i64 0,.int .i64 0,.int .i64 0,.int .i64 0,.bool false,.nilFunc,.string ⟨#[]⟩,.int .i64 0,.int .i64 0,.int .i64 0,.int .i64 0,.int .i64 0,.bool false,.nilFunc,.string ⟨#[]⟩,.int .i64 0,.int .i64 0,.int .i64 0,.int .i64 0,.int .i64 0,.bool false,.nilFunc,.string ⟨#[]⟩,.int .i64 0,.int .i64 0,.int .i64 0,.int .i64 0,.int .i64 0,.bool false,.nilFunc,.string ⟨#[]⟩,.int .i64 0,.int .i64 0,.int .i64 0,.int .i64 0,.int .i64 0,.bool false,.nilFunc,.string ⟨#[]⟩,.int .i64 0,.int .i64 0,.int .i64 0,.int .i64 0,.int .i64 0,.bool false,.nilFunc]
theorem zE {P:Program} {ops:Array Oper} {rest:List Oper} {o:Oper} {a:Act} {w:World} {Q:Exit→Act→World→Prop} (hg:o.guard=none) (t:TypeId) (parts:Array (Nat × Operand)) (ho:o.op= .build t parts) (row:Array Value)
 (hf:P.built t (parts.map fun (i,x)=>(i,a.eval x)).toList=some row) (h:wpList P ops Q rest (a.put o.dst (.agg row)) w):wpList P ops Q (o::rest) a w:=
 wpList_build hg t parts ho (by rw [hf];rfl) (by rw [hf];exact h)
theorem zTU:(Tryz.prog.info? 131).map (fun i=>(i.zero,i.size))=some (some (.agg opZero),208):=by kernel_rfl
theorem zLE:opZero.size=208:=by kernel_rfl
set_option maxHeartbeats 4000000 in
theorem zAN (w:World):Calls Tryz.prog 74 #[] w fun e w'=>e= .returned (.agg opCells)∧Below w.heap.size w w':=by
 have h1:=zTU
 have h2:=zLE
 generalize opZero=zs at h1 h2
 obtain⟨hz,hs⟩:=zero_of_info h1
 clear h1
 go_enter Tryz.func74,Tryz.ntmps74
 go_upto_region 1 with fail
 refine wp_region_lit ?_
 refine zE rfl _ _ rfl #[.string ⟨#[112,117,115,104]⟩,.int .i64 2305843009213693951,.int .i64 0,.int .i64 (-2305843009213693952),.int .i64 0,.int .i64 1,.bool false,.func (.func 108) #[] #[]] (by kernel_rfl) ?_
 simp only [Act.put,q0,q1,q2]
 refine zE rfl _ _ rfl #[.string ⟨#[110,105,108]⟩,.int .i64 0,.int .i64 0,.int .i64 0,.int .i64 0,.int .i64 1,.bool false,.nilFunc] (by kernel_rfl) ?_
 simp only [Act.put,q0,q1,q2]
 refine zE rfl _ _ rfl #[.string ⟨#[116,104,105,115]⟩,.int .i64 0,.int .i64 0,.int .i64 0,.int .i64 0,.int .i64 1,.bool false,.nilFunc] (by kernel_rfl) ?_
 simp only [Act.put,q0,q1,q2]
 refine zE rfl _ _ rfl #[.string ⟨#[108,111,97,100]⟩,.int .i64 29,.int .i64 0,.int .i64 0,.int .i64 0,.int .i64 1,.bool false,.func (.func 108) #[] #[]] (by kernel_rfl) ?_
 simp only [Act.put,q0,q1,q2]
 refine zE rfl _ _ rfl #[.string ⟨#[115,116,111,114,101]⟩,.int .i64 29,.int .i64 0,.int .i64 0,.int .i64 1,.int .i64 0,.bool false,.func (.func 108) #[] #[]] (by kernel_rfl) ?_
 simp only [Act.put,q0,q1,q2]
 refine zE rfl _ _ rfl #[.string ⟨#[112,111,112]⟩,.int .i64 0,.int .i64 0,.int .i64 0,.int .i64 1,.int .i64 0,.bool false,.nilFunc] (by kernel_rfl) ?_
 simp only [Act.put,q0,q1,q2]
 refine zE rfl _ _ rfl #[.string ⟨#[102,105,101,108,100]⟩,.int .i64 1023,.int .i64 0,.int .i64 0,.int .i64 1,.int .i64 1,.bool false,.func (.func 109) #[] #[]] (by kernel_rfl) ?_
 simp only [Act.put,q0,q1,q2]
 refine zE rfl _ _ rfl #[.string ⟨#[111,119,110]⟩,.int .i64 29,.int .i64 0,.int .i64 0,.int .i64 0,.int .i64 1,.bool false,.func (.func 108) #[] #[]] (by kernel_rfl) ?_
 simp only [Act.put,q0,q1,q2]
 refine zE rfl _ _ rfl #[.string ⟨#[115,101,116,102,105,101,108,100]⟩,.int .i64 1023,.int .i64 0,.int .i64 0,.int .i64 2,.int .i64 0,.bool false,.func (.func 109) #[] #[]] (by kernel_rfl) ?_
 simp only [Act.put,q0,q1,q2]
 refine zE rfl _ _ rfl #[.string ⟨#[115,101,116,111,119,110]⟩,.int .i64 29,.int .i64 0,.int .i64 0,.int .i64 1,.int .i64 0,.bool false,.func (.func 108) #[] #[]] (by kernel_rfl) ?_
 simp only [Act.put,q0,q1,q2]
 refine zE rfl _ _ rfl #[.string ⟨#[110,101,119]⟩,.int .i64 60,.int .i64 30,.int .i64 1,.int .i64 0,.int .i64 1,.bool true,.func (.func 110) #[] #[]] (by kernel_rfl) ?_
 simp only [Act.put,q0,q1,q2]
 refine zE rfl _ _ rfl #[.string ⟨#[110,101,119,97,116]⟩,.int .i64 60,.int .i64 30,.int .i64 1,.int .i64 1,.int .i64 1,.bool true,.func (.func 110) #[] #[]] (by kernel_rfl) ?_
 simp only [Act.put,q0,q1,q2]
 refine zE rfl _ _ rfl #[.string ⟨#[119,101,97,107]⟩,.int .i64 0,.int .i64 0,.int .i64 0,.int .i64 1,.int .i64 1,.bool false,.nilFunc] (by kernel_rfl) ?_
 simp only [Act.put,q0,q1,q2]
 refine zE rfl _ _ rfl #[.string ⟨#[103,101,116]⟩,.int .i64 0,.int .i64 0,.int .i64 0,.int .i64 1,.int .i64 1,.bool false,.nilFunc] (by kernel_rfl) ?_
 simp only [Act.put,q0,q1,q2]
 refine zE rfl _ _ rfl #[.string ⟨#[110,101,103]⟩,.int .i64 0,.int .i64 0,.int .i64 0,.int .i64 1,.int .i64 1,.bool false,.nilFunc] (by kernel_rfl) ?_
 simp only [Act.put,q0,q1,q2]
 refine zE rfl _ _ rfl #[.string ⟨#[110,111,116]⟩,.int .i64 0,.int .i64 0,.int .i64 0,.int .i64 1,.int .i64 1,.bool false,.nilFunc] (by kernel_rfl) ?_
 simp only [Act.put,q0,q1,q2]
 refine zE rfl _ _ rfl #[.string ⟨#[98,105,110,97,114,121]⟩,.int .i64 10,.int .i64 0,.int .i64 0,.int .i64 2,.int .i64 1,.bool false,.func (.func 111) #[] #[]] (by kernel_rfl) ?_
 simp only [Act.put,q0,q1,q2]
 refine zE rfl _ _ rfl #[.string ⟨#[116,114,117,116,104]⟩,.int .i64 0,.int .i64 0,.int .i64 0,.int .i64 1,.int .i64 1,.bool false,.nilFunc] (by kernel_rfl) ?_
 simp only [Act.put,q0,q1,q2]
 refine zE rfl _ _ rfl #[.string ⟨#[106,117,109,112]⟩,.int .i64 4000,.int .i64 0,.int .i64 0,.int .i64 0,.int .i64 0,.bool false,.func (.func 108) #[] #[]] (by kernel_rfl) ?_
 simp only [Act.put,q0,q1,q2]
 refine zE rfl _ _ rfl #[.string ⟨#[106,117,109,112,102,97,108,115,101]⟩,.int .i64 4000,.int .i64 0,.int .i64 0,.int .i64 1,.int .i64 0,.bool false,.func (.func 108) #[] #[]] (by kernel_rfl) ?_
 simp only [Act.put,q0,q1,q2]
 refine zE rfl _ _ rfl #[.string ⟨#[106,117,109,112,116,114,117,101]⟩,.int .i64 4000,.int .i64 0,.int .i64 0,.int .i64 1,.int .i64 0,.bool false,.func (.func 108) #[] #[]] (by kernel_rfl) ?_
 simp only [Act.put,q0,q1,q2]
 refine zE rfl _ _ rfl #[.string ⟨#[115,101,110,100]⟩,.int .i64 1023,.int .i64 8,.int .i64 0,.int .i64 1,.int .i64 0,.bool true,.func (.func 112) #[] #[]] (by kernel_rfl) ?_
 simp only [Act.put,q0,q1,q2]
 refine zE rfl _ _ rfl #[.string ⟨#[112,114,105,110,116]⟩,.int .i64 0,.int .i64 0,.int .i64 0,.int .i64 1,.int .i64 0,.bool false,.nilFunc] (by kernel_rfl) ?_
 simp only [Act.put,q0,q1,q2]
 refine zE rfl _ _ rfl #[.string ⟨#[109,111,118,101]⟩,.int .i64 0,.int .i64 0,.int .i64 0,.int .i64 2,.int .i64 0,.bool false,.nilFunc] (by kernel_rfl) ?_
 simp only [Act.put,q0,q1,q2]
 refine zE rfl _ _ rfl #[.string ⟨#[119,97,116,99,104]⟩,.int .i64 1023,.int .i64 0,.int .i64 0,.int .i64 2,.int .i64 0,.bool false,.func (.func 109) #[] #[]] (by kernel_rfl) ?_
 simp only [Act.put,q0,q1,q2]
 refine zE rfl _ _ rfl #[.string ⟨#[114,101,116,117,114,110]⟩,.int .i64 0,.int .i64 0,.int .i64 0,.int .i64 0,.int .i64 0,.bool false,.nilFunc] (by kernel_rfl) ?_
 simp only [Act.put,q0,q1,q2]
 refine zE rfl _ _ rfl opCells (by kernel_rfl) ?_
 refine wpList_plain rfl fun K hK=>wp_store_row _ _ _ rfl w.heap.size opCells (by kernel_rfl) (by kernel_rfl) 131 zs (heap_alloc_last w _) (by rw [zC2];exact hs) (by rw [zC2];exact h2) zLF (hK _ _ ?_)
 rw [World.setRow_alloc_new]
 refine wpList_nil ?_
 have hb:=zD w (.cells opCells 131)
 have hl:=heap_alloc_last w (.cells opCells 131)
 refine(by assumption:∀(a:Act) (w:World),_→_) _ _ ?_
 generalize hA:Act.put (Act.put _ _ _) _ _=A at*
 go_wp2_with fail
 rw [←hA]
 exact bodyPost_ret_by (v:= .agg opCells) (results_cell_row Tryz.results74 _ _ w.heap.size 131 opCells (0,0) _ (by kernel_rfl) hl Tryz.underlying131 rfl (by rw [zC2];exact hs)) rfl ⟨rfl,hb⟩
set_option maxRecDepth 100000
def oMost (o:Int):Int:=if o=0 then 2305843009213693951 else if o=3∨o=4∨o=7∨o=9 then 29 else if o=6∨o=8∨o=24∨o=21 then 1023 else if o=10∨o=11 then 60 else if o=16 then 10 else if o=18∨o=19∨o=20 then 4000 else 0
def oArgs (o:Int):Int:=if o=10∨o=11 then 30 else if o=21 then 8 else 0
def oLeast (o:Int):Int:=if o=0 then -2305843009213693952 else if o=10∨o=11 then 1 else 0
def oCnt (o:Int):Bool:=decide (o=10∨o=11∨o=21)
def oName (o:Int):ByteArray:= [⟨#[112,117,115,104]⟩,⟨#[110,105,108]⟩,⟨#[116,104,105,115]⟩,⟨#[108,111,97,100]⟩,⟨#[115,116,111,114,101]⟩,⟨#[112,111,112]⟩,⟨#[102,105,101,108,100]⟩,⟨#[111,119,110]⟩,⟨#[115,101,116,102,105,101,108,100]⟩,⟨#[115,101,116,111,119,110]⟩,⟨#[110,101,119]⟩,⟨#[110,101,119,97,116]⟩,⟨#[119,101,97,107]⟩,⟨#[103,101,116]⟩,⟨#[110,101,103]⟩,⟨#[110,111,116]⟩,⟨#[98,105,110,97,114,121]⟩,⟨#[116,114,117,116,104]⟩,⟨#[106,117,109,112]⟩,⟨#[106,117,109,112,102,97,108,115,101]⟩,⟨#[106,117,109,112,116,114,117,101]⟩,⟨#[115,101,110,100]⟩,⟨#[112,114,105,110,116]⟩,⟨#[109,111,118,101]⟩,⟨#[119,97,116,99,104]⟩,⟨#[114,101,116,117,114,110]⟩].getD o.toNat ⟨#[]⟩
def oText (o:Int):Value:= [.func (.func 108) #[] #[],.nilFunc,.nilFunc,.func (.func 108) #[] #[],.func (.func 108) #[] #[],.nilFunc,.func (.func 109) #[] #[],.func (.func 108) #[] #[],.func (.func 109) #[] #[],.func (.func 108) #[] #[],.func (.func 110) #[] #[],.func (.func 110) #[] #[],.nilFunc,.nilFunc,.nilFunc,.nilFunc,.func (.func 111) #[] #[],.nilFunc,.func (.func 108) #[] #[],.func (.func 108) #[] #[],.func (.func 108) #[] #[],.func (.func 112) #[] #[],.nilFunc,.nilFunc,.func (.func 109) #[] #[],.nilFunc].getD o.toNat .nilFunc
def opRow (o:Int):Array Value:= #[.string (oName o),.int .i64 (oMost o),.int .i64 (oArgs o),.int .i64 (oLeast o),.int .i64 (Co.pops o 0),.int .i64 (Co.pushes o),.bool (oCnt o),oText o]
theorem zFN {p:Int→Prop} (h:∀k:Nat,k<26→p k) {o:Int} (h0:0≤o) (h1:o<26):p o:=by
 have:=h o.toNat (by omega)
 rwa [Int.toNat_of_nonneg h0] at this
theorem zTS:∀k:Nat,k<26→opCells.extract (k*8) (k*8+8)=opRow k
 |0,_=>by kernel_rfl
 |1,_=>by kernel_rfl
 |2,_=>by kernel_rfl
 |3,_=>by kernel_rfl
 |4,_=>by kernel_rfl
 |5,_=>by kernel_rfl
 |6,_=>by kernel_rfl
 |7,_=>by kernel_rfl
 |8,_=>by kernel_rfl
 |9,_=>by kernel_rfl
 |10,_=>by kernel_rfl
 |11,_=>by kernel_rfl
 |12,_=>by kernel_rfl
 |13,_=>by kernel_rfl
 |14,_=>by kernel_rfl
 |15,_=>by kernel_rfl
 |16,_=>by kernel_rfl
 |17,_=>by kernel_rfl
 |18,_=>by kernel_rfl
 |19,_=>by kernel_rfl
 |20,_=>by kernel_rfl
 |21,_=>by kernel_rfl
 |22,_=>by kernel_rfl
 |23,_=>by kernel_rfl
 |24,_=>by kernel_rfl
 |25,_=>by kernel_rfl
 |n+26,h=>absurd h (by omega)
theorem zTT:∀k:Nat,k<26→¬(oName k).toList= []
 |0,_=>by decide+kernel
 |1,_=>by decide+kernel
 |2,_=>by decide+kernel
 |3,_=>by decide+kernel
 |4,_=>by decide+kernel
 |5,_=>by decide+kernel
 |6,_=>by decide+kernel
 |7,_=>by decide+kernel
 |8,_=>by decide+kernel
 |9,_=>by decide+kernel
 |10,_=>by decide+kernel
 |11,_=>by decide+kernel
 |12,_=>by decide+kernel
 |13,_=>by decide+kernel
 |14,_=>by decide+kernel
 |15,_=>by decide+kernel
 |16,_=>by decide+kernel
 |17,_=>by decide+kernel
 |18,_=>by decide+kernel
 |19,_=>by decide+kernel
 |20,_=>by decide+kernel
 |21,_=>by decide+kernel
 |22,_=>by decide+kernel
 |23,_=>by decide+kernel
 |24,_=>by decide+kernel
 |25,_=>by decide+kernel
 |n+26,h=>absurd h (by omega)
theorem zPL:∀k:Nat,k<26→(oText k).oneCell'=true
 |0,_=>by kernel_rfl
 |1,_=>by kernel_rfl
 |2,_=>by kernel_rfl
 |3,_=>by kernel_rfl
 |4,_=>by kernel_rfl
 |5,_=>by kernel_rfl
 |6,_=>by kernel_rfl
 |7,_=>by kernel_rfl
 |8,_=>by kernel_rfl
 |9,_=>by kernel_rfl
 |10,_=>by kernel_rfl
 |11,_=>by kernel_rfl
 |12,_=>by kernel_rfl
 |13,_=>by kernel_rfl
 |14,_=>by kernel_rfl
 |15,_=>by kernel_rfl
 |16,_=>by kernel_rfl
 |17,_=>by kernel_rfl
 |18,_=>by kernel_rfl
 |19,_=>by kernel_rfl
 |20,_=>by kernel_rfl
 |21,_=>by kernel_rfl
 |22,_=>by kernel_rfl
 |23,_=>by kernel_rfl
 |24,_=>by kernel_rfl
 |25,_=>by kernel_rfl
 |n+26,h=>absurd h (by omega)
theorem zTV:(Tryz.prog.info? 130).map (·.size)=some 8:=by kernel_rfl
theorem zID {o:Int} (h0:0≤o) (h1:o<26) (w:World):(Instr.index 131 (.agg opCells) (.int .i64 o)).run Tryz.prog w= .ok (.agg (opRow o)) w:=by
 have hr:opCells.extract (o.toNat*8) (o.toNat*8+8)=opRow o:=zFN (p:=fun o=>opCells.extract (o.toNat*8) (o.toNat*8+8)=opRow o) (fun k hk=>zTS k hk) h0 h1
 have hi:=zTV
 cases hq:Tryz.prog.info? 130 with
 |none=>rw [hq] at hi;cases hi
 |some i=>
  have hs:i.size=8:=by rw [hq] at hi;simpa using hi
  simp [Instr.index,asIntOf,run_underlying Tryz.underlying131,sizeOf,typeInfo,hq,hs,h0,h1,part,isAgg,run_underlying Tryz.underlying130,hr]
theorem zR2 (o:Int) (w:World):(Instr.field 130 (.agg (opRow o)) 0).run Tryz.prog w= .ok (.string (oName o)) w:=by
 simp [Instr.field,run_underlying Tryz.underlying130,part,isAgg,run_underlying Tryz.underlying9,asAgg,opRow]
theorem zMC {o:Int} (h:(oText o).oneCell'=true):(opRow o).all (·.oneCell')=true:=by
 rw [Array.all_eq_true_iff_forall_mem]
 intro x hx
 simp only [opRow,List.mem_toArray,List.mem_cons,List.not_mem_nil,or_false] at hx
 rcases hx with rfl|rfl|rfl|rfl|rfl|rfl|rfl|rfl
 all_goals first|rfl|exact h
structure Vd (x:Co.Ins):Prop where
 op:0≤x.1∧x.1<26
 a:oLeast x.1≤x.2.1∧x.2.1≤oMost x.1
 b:0≤x.2.2∧x.2.2≤oArgs x.1
set_option maxHeartbeats 1000000 in
theorem zON (o:Int) (h0:0≤o) (h1:o<26) (w:World):Calls Tryz.prog 75 #[.int .i64 o] w fun e w'=>e= .returned (.string (oName o))∧Below w.heap.size w w':=by
 have HX:=zh (fun w=>zID h0 h1 w)
 have HB0:=zh (Below.refl w.heap.size w)
 unfold opRow at HX
 go_enter Tryz.func75,Tryz.ntmps75
 go_wp2_with fail
 refine(zAN _).mono ?_
 rintro e w1 ⟨rfl,hb1⟩
 have HB1:=zh (HB0.out.trans (hb1.mono HB0.out.size))
 clear HB0 hb1
 go_wp2_with fail
 refine(zAN _).mono ?_
 rintro e w2 ⟨rfl,hb2⟩
 have HB2:=zh (HB1.out.trans (hb2.mono HB1.out.size))
 clear HB1 hb2
 have hx:=HX.out
 have hf:=fun w=>zR2 o w
 unfold opRow at hf
 go_wp2_with fail
 go_ret
 exact⟨rfl,HB2.out⟩
set_option maxRecDepth 100000 in
set_option maxHeartbeats 4000000 in
theorem zLV (x:Co.Ins) (h:Vd x) (w:World):Calls Tryz.prog 52 #[.agg #[.int .i64 x.1,.int .i64 x.2.1,.int .i64 x.2.2]] w fun e w'=>e= .returned (.bool true)∧Below w.heap.size w w':=by
 obtain⟨o,a,b⟩:=x
 have hv:=h
 obtain⟨⟨h0,h1⟩,⟨ha0,ha1⟩,⟨hb0,hb1⟩⟩:=h
 dsimp only at h0 h1 ha0 ha1 hb0 hb1
 have HX:=zh (fun w=>zID h0 h1 w)
 unfold opRow at HX
 have HT:Hid ((oText o).oneCell'=true):=zh (zFN (p:=fun o=>(oText o).oneCell'=true) zPL h0 h1)
 have HV:=zh hv
 have C0:=zh (Mo.start w)
 clear hv
 have HN:Hid (¬(oName o).toList= []):=zh (zFN (p:=fun o=>¬(oName o).toList= []) zTT h0 h1)
 have HA:=zh (⟨ha0,ha1,hb0,hb1⟩:oLeast o≤a∧a≤oMost o∧0≤b∧b≤oArgs o)
 have HO:=zh (⟨h0,h1⟩:0≤o∧o<26)
 clear h0 h1 ha0 ha1 hb0 hb1
 obtain⟨I,w1,HX,HW,hx1,C1⟩:=C0.out.boxE #[.int .i64 o,.int .i64 a,.int .i64 b] 65
 go_enter Tryz.func52,Tryz.ntmps52
 go_upto_region 1 with fail
 rw [←HX.out,←HW.out]
 clear HX HW C0
 have C2:=zh (Mz.foldA3 C1.out)
 clear C1
 have qI:w1.cell? ⟨I,0,none⟩=some (.int .i64 o)∧w1.cell? ⟨I,1,none⟩=some (.int .i64 a)∧w1.cell? ⟨I,2,none⟩=some (.int .i64 b):=(C2.out.rd 0 rfl)
 go_wp2_with fail
 clear qI
 have hk:=zON o HO.out.1 HO.out.2 w1
 refine hk.mono ?_
 clear hk
 rintro e w3 ⟨rfl,hb9⟩
 have C3:=zh (Mz.below C2.out hb9)
 clear hb9 C2
 have hn:=HN.out
 have hn2:((oName o).toList == [])=false:=beq_eq_false_iff_ne.2 hn
 go_upto_region 3 with fail
 clear hn hn2
 obtain⟨w1,hw1⟩:∃q,q=w3:=⟨_,rfl⟩
 rw [←hw1] at C3 ⊢
 have C1:=C3
 clear hw1 C3
 go_cut [3] (fun s3 wx=>∃X:Nat,s3= .pointer (some ⟨X,0,none⟩)∧Hid (Mz 0 0 w [] (fun _=>True) [] [(X,#[.string (oName o),.int .i64 (oMost o),.int .i64 (oArgs o),.int .i64 (oLeast o),.int .i64 (Co.pops o 0),.int .i64 (Co.pushes o),.bool (oCnt o),oText o],130)] [A3 I (.int .i64 o) (.int .i64 a) (.int .i64 b)] wx))
 case first=>
  obtain⟨w4,HW,C4⟩:=C1.out.drewE
  refine wp_region_held_drew (S:=fun W=>W.cell? ⟨I,0,none⟩=some (.int .i64 o)∧W.cell? ⟨I,1,none⟩=some (.int .i64 a)∧W.cell? ⟨I,2,none⟩=some (.int .i64 b)) (by kernel_rfl) (by rw [←HW.out];exact⟨(C4.out.rd 0 rfl).1,(C4.out.rd 0 rfl).2.1,(C4.out.rd 0 rfl).2.2⟩) (fun hHeld=>?_)
  rw [←HW.out] at hHeld ⊢
  clear HW C1
  refine rU 1 (some 9) ?_
  refine rU 2 (some 10) ?_
  clear hHeld
  refine rR2 0 (some 8) 4 (some 3) (fun K hK=>?_) (fun K hK=>?_)
  ·go_simp
   refine(zAN _).mono ?_
   rintro e w5 ⟨rfl,hb9⟩
   have C5:=zh (Mz.below C4.out hb9)
   clear hb9 C4
   go_wp2_with fail
   refine hK.out _ _ ?_ (fun hHeld=>?_)
   ·exact⟨(C5.out.rd 0 rfl).1,(C5.out.rd 0 rfl).2.1,(C5.out.rd 0 rfl).2.2⟩
   clear hK K
   try simp only [Act.put,q0,q1,q2]
   have hx:=HX.out
   refine rU 3 (some 11) ?_
   clear hHeld hx
   refine rR1 4 (some 3) (fun K hK=>?_)
   obtain⟨X,w6,HX9,HW,hx6,C6⟩:=C5.out.boxE #[.string ⟨#[]⟩,.int .i64 0,.int .i64 0,.int .i64 0,.int .i64 0,.int .i64 0,.bool false,.nilFunc] 130
   go_simp
   rw [←HX9.out,←HW.out]
   clear HX9 HW C5
   refine hK.out _ _ ?_ (fun hHeld=>?_)
   ·exact⟨(C6.out.rd 0 rfl).1,(C6.out.rd 0 rfl).2.1,(C6.out.rd 0 rfl).2.2⟩
   clear hK K
   try simp only [Act.put,q0,q1,q2]
   clear hHeld
   refine rR1 5 none (fun K hK=>?_)
   rw [if_pos (by rfl)]
   obtain⟨w7,HW,C7⟩:=C6.out.setRowE 0 rfl #[.string (oName o),.int .i64 (oMost o),.int .i64 (oArgs o),.int .i64 (oLeast o),.int .i64 (Co.pops o 0),.int .i64 (Co.pushes o),.bool (oCnt o),oText o]
   dsimp only [List.set] at C7
   refine wp_store_row _ _ _ rfl X #[.string (oName o),.int .i64 (oMost o),.int .i64 (oArgs o),.int .i64 (oLeast o),.int .i64 (Co.pops o 0),.int .i64 (Co.pushes o),.bool (oCnt o),oText o] rfl rfl 130 #[.string ⟨#[]⟩,.int .i64 0,.int .i64 0,.int .i64 0,.int .i64 0,.int .i64 0,.bool false,.nilFunc] (C6.out.b 0 rfl) (by kernel_rfl) rfl (zMC HT.out) ?_
   rw [←HW.out]
   clear HW C6
   refine hK.out _ _ ?_ (fun hHeld=>?_)
   ·exact⟨(C7.out.rd 0 rfl).1,(C7.out.rd 0 rfl).2.1,(C7.out.rd 0 rfl).2.2⟩
   clear hK K
   simp only [Act.put]
   refine wpAnyH_done (by kernel_rfl) ?_ _
   clear hHeld
   go_wp2_with fail
   go_meet
   exact⟨X,rfl,C7⟩
  ·obtain⟨X,w8,HX9,HW,hx8,C8⟩:=C4.out.boxE #[.string ⟨#[]⟩,.int .i64 0,.int .i64 0,.int .i64 0,.int .i64 0,.int .i64 0,.bool false,.nilFunc] 130
   go_simp
   rw [←HX9.out,←HW.out]
   clear HX9 HW C4
   refine hK.out _ _ ?_ (fun hHeld=>?_)
   ·exact⟨(C8.out.rd 0 rfl).1,(C8.out.rd 0 rfl).2.1,(C8.out.rd 0 rfl).2.2⟩
   clear hK K
   try simp only [Act.put,q0,q1,q2]
   clear hHeld
   refine rR1 0 (some 8) (fun K hK=>?_)
   go_simp
   refine(zAN _).mono ?_
   rintro e w9 ⟨rfl,hb9⟩
   have C9:=zh (Mz.below C8.out hb9)
   clear hb9 C8
   go_wp2_with fail
   refine hK.out _ _ ?_ (fun hHeld=>?_)
   ·exact⟨(C9.out.rd 0 rfl).1,(C9.out.rd 0 rfl).2.1,(C9.out.rd 0 rfl).2.2⟩
   clear hK K
   try simp only [Act.put,q0,q1,q2]
   have hx:=HX.out
   refine rU 3 (some 11) ?_
   clear hHeld hx
   refine rR1 5 none (fun K hK=>?_)
   rw [if_pos (by rfl)]
   obtain⟨w10,HW,C10⟩:=C9.out.setRowE 0 rfl #[.string (oName o),.int .i64 (oMost o),.int .i64 (oArgs o),.int .i64 (oLeast o),.int .i64 (Co.pops o 0),.int .i64 (Co.pushes o),.bool (oCnt o),oText o]
   dsimp only [List.set] at C10
   refine wp_store_row _ _ _ rfl X #[.string (oName o),.int .i64 (oMost o),.int .i64 (oArgs o),.int .i64 (oLeast o),.int .i64 (Co.pops o 0),.int .i64 (Co.pushes o),.bool (oCnt o),oText o] rfl rfl 130 #[.string ⟨#[]⟩,.int .i64 0,.int .i64 0,.int .i64 0,.int .i64 0,.int .i64 0,.bool false,.nilFunc] (C9.out.b 0 rfl) (by kernel_rfl) rfl (zMC HT.out) ?_
   rw [←HW.out]
   clear HW C9
   refine hK.out _ _ ?_ (fun hHeld=>?_)
   ·exact⟨(C10.out.rd 0 rfl).1,(C10.out.rd 0 rfl).2.1,(C10.out.rd 0 rfl).2.2⟩
   clear hK K
   simp only [Act.put]
   refine wpAnyH_done (by kernel_rfl) ?_ _
   clear hHeld
   go_wp2_with fail
   go_meet
   exact⟨X,rfl,C10⟩
 case rest=>
 clear C1
 obtain⟨X,rfl,CW⟩:=hcut
 have qx:=cells8 (CW.out.b 0 rfl)
 have qi:wc.cell? ⟨I,0,none⟩=some (.int .i64 o)∧wc.cell? ⟨I,1,none⟩=some (.int .i64 a)∧wc.cell? ⟨I,2,none⟩=some (.int .i64 b):=CW.out.rd 0 rfl
 obtain⟨ha0,ha1,hb0,hb1⟩:=HA.out
 go_wp2_with fail
 go_ret
 exact⟨rfl,CW.out.gr.fresh⟩
set_option maxRecDepth 100000 in
set_option maxHeartbeats 4000000 in
theorem zKJ (x:Co.Ins) (h:Vd x) (w:World):Calls Tryz.prog 51 #[.agg #[.int .i64 x.1,.int .i64 x.2.1,.int .i64 x.2.2]] w fun e w'=>e= .returned (.tuple #[.int .i64 (Co.pops x.1 x.2.2),.int .i64 (Co.pushes x.1)])∧Below w.heap.size w w':=by
 obtain⟨o,a,b⟩:=x
 have hv:=h
 obtain⟨⟨h0,h1⟩,⟨ha0,ha1⟩,⟨hb0,hb1⟩⟩:=h
 dsimp only at h0 h1 ha0 ha1 hb0 hb1
 have HX:=zh (fun w=>zID h0 h1 w)
 unfold opRow at HX
 have HT:Hid ((oText o).oneCell'=true):=zh (zFN (p:=fun o=>(oText o).oneCell'=true) zPL h0 h1)
 have HV:=zh hv
 have C0:=zh (Mo.start w)
 clear hv
 have HO:=zh (⟨h0,h1⟩:0≤o∧o<26)
 have HBB:Hid (0≤b∧b≤30):=zh ⟨hb0,by unfold oArgs at hb1;repeat' split at hb1;all_goals omega⟩
 clear h0 h1 ha0 ha1 hb0 hb1
 obtain⟨I,w11,HX,HW,hx11,C11⟩:=C0.out.boxE #[.int .i64 o,.int .i64 a,.int .i64 b] 65
 go_enter Tryz.func51,Tryz.ntmps51
 go_upto_region 1 with fail
 rw [←HX.out,←HW.out]
 clear HX HW C0
 have C12:=zh (Mz.foldA3 C11.out)
 clear C11
 have qI:w11.cell? ⟨I,0,none⟩=some (.int .i64 o)∧w11.cell? ⟨I,1,none⟩=some (.int .i64 a)∧w11.cell? ⟨I,2,none⟩=some (.int .i64 b):=(C12.out.rd 0 rfl)
 go_wp2_with fail
 clear qI
 have hk:=zLV (o,a,b) HV.out w11
 refine hk.mono ?_
 clear hk
 rintro e w13 ⟨rfl,hb9⟩
 have C13:=zh (Mz.below C12.out hb9)
 clear hb9 C12
 go_upto_region 3 with fail
 obtain⟨w1,hw1⟩:∃q,q=w13:=⟨_,rfl⟩
 rw [←hw1] at C13 ⊢
 have C1:=C13
 clear hw1 C13
 go_cut [4] (fun s4 wx=>∃X:Nat,s4= .pointer (some ⟨X,0,none⟩)∧Hid (Mz 0 0 w [] (fun _=>True) [] [(X,#[.string (oName o),.int .i64 (oMost o),.int .i64 (oArgs o),.int .i64 (oLeast o),.int .i64 (Co.pops o 0),.int .i64 (Co.pushes o),.bool (oCnt o),oText o],130)] [A3 I (.int .i64 o) (.int .i64 a) (.int .i64 b)] wx))
 case first=>
  obtain⟨w14,HW,C14⟩:=C1.out.drewE
  refine wp_region_held_drew (S:=fun W=>W.cell? ⟨I,0,none⟩=some (.int .i64 o)∧W.cell? ⟨I,1,none⟩=some (.int .i64 a)∧W.cell? ⟨I,2,none⟩=some (.int .i64 b)) (by kernel_rfl) (by rw [←HW.out];exact⟨(C14.out.rd 0 rfl).1,(C14.out.rd 0 rfl).2.1,(C14.out.rd 0 rfl).2.2⟩) (fun hHeld=>?_)
  rw [←HW.out] at hHeld ⊢
  clear HW C1
  refine rU 1 (some 9) ?_
  refine rU 2 (some 10) ?_
  clear hHeld
  refine rR2 0 (some 8) 4 (some 4) (fun K hK=>?_) (fun K hK=>?_)
  ·go_simp
   refine(zAN _).mono ?_
   rintro e w15 ⟨rfl,hb9⟩
   have C15:=zh (Mz.below C14.out hb9)
   clear hb9 C14
   go_wp2_with fail
   refine hK.out _ _ ?_ (fun hHeld=>?_)
   ·exact⟨(C15.out.rd 0 rfl).1,(C15.out.rd 0 rfl).2.1,(C15.out.rd 0 rfl).2.2⟩
   clear hK K
   try simp only [Act.put,q0,q1,q2]
   have hx:=HX.out
   refine rU 3 (some 11) ?_
   clear hHeld hx
   refine rR1 4 (some 4) (fun K hK=>?_)
   obtain⟨X,w16,HX9,HW,hx16,C16⟩:=C15.out.boxE #[.string ⟨#[]⟩,.int .i64 0,.int .i64 0,.int .i64 0,.int .i64 0,.int .i64 0,.bool false,.nilFunc] 130
   go_simp
   rw [←HX9.out,←HW.out]
   clear HX9 HW C15
   refine hK.out _ _ ?_ (fun hHeld=>?_)
   ·exact⟨(C16.out.rd 0 rfl).1,(C16.out.rd 0 rfl).2.1,(C16.out.rd 0 rfl).2.2⟩
   clear hK K
   try simp only [Act.put,q0,q1,q2]
   clear hHeld
   refine rR1 5 none (fun K hK=>?_)
   rw [if_pos (by rfl)]
   obtain⟨w17,HW,C17⟩:=C16.out.setRowE 0 rfl #[.string (oName o),.int .i64 (oMost o),.int .i64 (oArgs o),.int .i64 (oLeast o),.int .i64 (Co.pops o 0),.int .i64 (Co.pushes o),.bool (oCnt o),oText o]
   dsimp only [List.set] at C17
   refine wp_store_row _ _ _ rfl X #[.string (oName o),.int .i64 (oMost o),.int .i64 (oArgs o),.int .i64 (oLeast o),.int .i64 (Co.pops o 0),.int .i64 (Co.pushes o),.bool (oCnt o),oText o] rfl rfl 130 #[.string ⟨#[]⟩,.int .i64 0,.int .i64 0,.int .i64 0,.int .i64 0,.int .i64 0,.bool false,.nilFunc] (C16.out.b 0 rfl) (by kernel_rfl) rfl (zMC HT.out) ?_
   rw [←HW.out]
   clear HW C16
   refine hK.out _ _ ?_ (fun hHeld=>?_)
   ·exact⟨(C17.out.rd 0 rfl).1,(C17.out.rd 0 rfl).2.1,(C17.out.rd 0 rfl).2.2⟩
   clear hK K
   simp only [Act.put]
   refine wpAnyH_done (by kernel_rfl) ?_ _
   clear hHeld
   go_wp2_with fail
   go_meet
   exact⟨X,rfl,C17⟩
  ·obtain⟨X,w18,HX9,HW,hx18,C18⟩:=C14.out.boxE #[.string ⟨#[]⟩,.int .i64 0,.int .i64 0,.int .i64 0,.int .i64 0,.int .i64 0,.bool false,.nilFunc] 130
   go_simp
   rw [←HX9.out,←HW.out]
   clear HX9 HW C14
   refine hK.out _ _ ?_ (fun hHeld=>?_)
   ·exact⟨(C18.out.rd 0 rfl).1,(C18.out.rd 0 rfl).2.1,(C18.out.rd 0 rfl).2.2⟩
   clear hK K
   try simp only [Act.put,q0,q1,q2]
   clear hHeld
   refine rR1 0 (some 8) (fun K hK=>?_)
   go_simp
   refine(zAN _).mono ?_
   rintro e w19 ⟨rfl,hb9⟩
   have C19:=zh (Mz.below C18.out hb9)
   clear hb9 C18
   go_wp2_with fail
   refine hK.out _ _ ?_ (fun hHeld=>?_)
   ·exact⟨(C19.out.rd 0 rfl).1,(C19.out.rd 0 rfl).2.1,(C19.out.rd 0 rfl).2.2⟩
   clear hK K
   try simp only [Act.put,q0,q1,q2]
   have hx:=HX.out
   refine rU 3 (some 11) ?_
   clear hHeld hx
   refine rR1 5 none (fun K hK=>?_)
   rw [if_pos (by rfl)]
   obtain⟨w20,HW,C20⟩:=C19.out.setRowE 0 rfl #[.string (oName o),.int .i64 (oMost o),.int .i64 (oArgs o),.int .i64 (oLeast o),.int .i64 (Co.pops o 0),.int .i64 (Co.pushes o),.bool (oCnt o),oText o]
   dsimp only [List.set] at C20
   refine wp_store_row _ _ _ rfl X #[.string (oName o),.int .i64 (oMost o),.int .i64 (oArgs o),.int .i64 (oLeast o),.int .i64 (Co.pops o 0),.int .i64 (Co.pushes o),.bool (oCnt o),oText o] rfl rfl 130 #[.string ⟨#[]⟩,.int .i64 0,.int .i64 0,.int .i64 0,.int .i64 0,.int .i64 0,.bool false,.nilFunc] (C19.out.b 0 rfl) (by kernel_rfl) rfl (zMC HT.out) ?_
   rw [←HW.out]
   clear HW C19
   refine hK.out _ _ ?_ (fun hHeld=>?_)
   ·exact⟨(C20.out.rd 0 rfl).1,(C20.out.rd 0 rfl).2.1,(C20.out.rd 0 rfl).2.2⟩
   clear hK K
   simp only [Act.put]
   refine wpAnyH_done (by kernel_rfl) ?_ _
   clear hHeld
   go_wp2_with fail
   go_meet
   exact⟨X,rfl,C20⟩
 case rest=>
 clear C1
 obtain⟨X,rfl,CW⟩:=hcut
 obtain⟨w2,hw2⟩:∃q,q=wc:=⟨_,rfl⟩
 rw [←hw2] at CW ⊢
 clear hw2
 cases hcn:oCnt o
 ·rw [hcn] at CW
  have hpo:Co.pops o b=Co.pops o 0:=by have h9:=of_decide_eq_false hcn;unfold Co.pops;rw [if_neg (show ¬o=10 from by omega),if_neg (show ¬(o=11∨o=21) from by omega),if_neg (show ¬o=10 from by omega),if_neg (show ¬(o=11∨o=21) from by omega)]
  have HP:=zh hpo
  clear hpo hcn
  have qx:=cells8 (CW.out.b 0 rfl)
  go_upto_region 6 with fail
  clear qx
  obtain⟨wd,HW,CD⟩:=CW.out.drewE
  refine wp_region_held_drew (S:=fun W=>W.cell? ⟨X,4,none⟩=some (.int .i64 (Co.pops o 0))∧W.cell? ⟨X,5,none⟩=some (.int .i64 (Co.pushes o))) (by kernel_rfl) (by rw [←HW.out];exact⟨zB (CD.out.b 0 rfl) (j:=4) rfl,zB (CD.out.b 0 rfl) (j:=5) rfl⟩) (fun hHeld=>?_)
  rw [←HW.out] at hHeld ⊢
  clear HW
  refine rU 0 (some 20) ?_
  refine rU 1 (some 21) ?_
  refine rU 2 (some 22) ?_
  refine rU 3 (some 23) ?_
  refine rU 4 (some 2) ?_
  refine rU 5 (some 3) ?_
  refine wpAnyH_done (by kernel_rfl) ?_ _
  clear hHeld
  go_wp2_with fail
  go_ret2
  refine⟨?_,CD.out.gr.fresh⟩
  rw [HP.out]
  rfl
 ·rw [hcn] at CW
  have hpo:Co.pops o b=Co.pops o 0+b∧0≤Co.pops o 0∧Co.pops o 0≤1:=by
   have h9:=of_decide_eq_true hcn
   rcases h9 with rfl|rfl|rfl
   ·exact⟨by show b=0+b;omega,by decide,by decide⟩
   ·exact⟨by show b+1=0+1+b;omega,by decide,by decide⟩
   ·exact⟨by show b+1=0+1+b;omega,by decide,by decide⟩
  obtain⟨PO,hPO⟩:∃q,Co.pops o 0=q:=⟨_,rfl⟩
  rw [hPO] at hpo CW
  have HP:=zh hpo
  clear hpo hcn hPO
  have qx:=cells8 (CW.out.b 0 rfl)
  have qi:w2.cell? ⟨I,0,none⟩=some (.int .i64 o)∧w2.cell? ⟨I,1,none⟩=some (.int .i64 a)∧w2.cell? ⟨I,2,none⟩=some (.int .i64 b):=CW.out.rd 0 rfl
  obtain⟨hp1,hp2,hp3⟩:=HP.out
  obtain⟨hb0,hb1⟩:=HBB.out
  obtain⟨w3,HW3⟩:∃q,Hid (q=w2.setCell ⟨X,4,none⟩ (.int .i64 (PO+b))):=⟨_,zh rfl⟩
  have C3:=zh ((CW.out.set (W':=w3) 0 rfl (by rw [HW3.out];exact zH _ _ _ _) (by rw [HW3.out];exact heap_set (j:=4) _ (CW.out.b 0 rfl))).nrm (bs':= [(X,#[.string (oName o),.int .i64 (oMost o),.int .i64 (oArgs o),.int .i64 (oLeast o),.int .i64 (PO+b),.int .i64 (Co.pushes o),.bool true,oText o],130)]) rfl)
  go_upto_region 6 with fail
  rw [←HW3.out]
  clear qx qi HW3 CW hp1 hp2 hp3 hb0 hb1
  obtain⟨wd,HW,CD⟩:=C3.out.drewE
  refine wp_region_held_drew (S:=fun W=>W.cell? ⟨X,4,none⟩=some (.int .i64 (PO+b))∧W.cell? ⟨X,5,none⟩=some (.int .i64 (Co.pushes o))) (by kernel_rfl) (by rw [←HW.out];exact⟨zB (CD.out.b 0 rfl) (j:=4) rfl,zB (CD.out.b 0 rfl) (j:=5) rfl⟩) (fun hHeld=>?_)
  rw [←HW.out] at hHeld ⊢
  clear HW
  refine rU 0 (some 20) ?_
  refine rU 1 (some 21) ?_
  refine rU 2 (some 22) ?_
  refine rU 3 (some 23) ?_
  refine rU 4 (some 2) ?_
  refine rU 5 (some 3) ?_
  refine wpAnyH_done (by kernel_rfl) ?_ _
  clear hHeld
  go_wp2_with fail
  go_ret2
  refine⟨?_,CD.out.gr.fresh⟩
  rw [HP.out.1]
  rfl
end Cw
end Go.Proofs.YtcnmfcgmnkncaaaGreatDoor
namespace Go.Proofs.YtcnmfcgmnkncaaaGreatDoor
namespace Co
open Tr
def okOp (o:Int):Prop:=o=0∨o=1∨o=3∨o=14∨o=15∨o=16∨o=17∨o=18∨o=19∨o=20∨o=22∨o=25
def Oc (g:G):Prop:=∀o∈g.code.map Prod.fst,okOp o
theorem Oc.patch {g:G} (h:Oc g) (i:Nat):Oc (patch g i):=fun x hx=>by
 have h2:=zES g.code i (fun x=>(x.1,(g.code.length:Int),x.2.2)) (fun _=>rfl)
 have h3:x∈g.code.map Prod.fst:=by
  rw [←h2]
  exact hx
 exact h x h3
theorem Oc.same {g h:G} (o:Oc g) (e:h.code=g.code):Oc h:=fun x hx=>o x (by rw [←e];exact hx)
end Co
namespace Cw
theorem vd_mk {o a b:Int} (h0:0≤o∧o<26) (ha:oLeast o≤a∧a≤oMost o) (hb:0≤b∧b≤oArgs o):Vd (o,a,b):=⟨h0,ha,hb⟩
theorem fin_vd {cs:List Tr.C} {fs:List ByteArray} {nn ln cl:Nat} {x:Co.Ins} (h:Co.Fin cs fs nn ln cl false x) (h1:nn≤1024) (h2:ln≤30) (h3:cl≤4000) (h4:fs.length≤30) (h5:cs.length≤60) (h6:∀c∈cs,c.fields.length≤30):Vd x:=by
 cases h with
 |push n a b=>exact vd_mk ⟨by decide,by decide⟩ ⟨a,b⟩ ⟨by decide,by decide⟩
 |flat o a=>rcases a with rfl|rfl|rfl|rfl|rfl|rfl|rfl|rfl|rfl|rfl<;>exact vd_mk ⟨by decide,by decide⟩ ⟨by decide,by decide⟩ ⟨by decide,by decide⟩
 |loc o n a b=>rcases a with rfl|rfl<;>exact vd_mk ⟨by decide,by decide⟩ ⟨show(0:Int)≤n by omega,show(n:Int)≤29 by omega⟩ ⟨by decide,by decide⟩
 |nam o n a b=>rcases a with rfl|rfl|rfl<;>exact vd_mk ⟨by decide,by decide⟩ ⟨show(0:Int)≤n by omega,show(n:Int)≤1023 by omega⟩ ⟨by decide,by decide⟩
 |snd n b a d e=>exact vd_mk ⟨by decide,by decide⟩ ⟨show(0:Int)≤n by omega,show(n:Int)≤1023 by omega⟩ ⟨d,e rfl⟩
 |own o n a b=>rcases a with rfl|rfl<;>exact vd_mk ⟨by decide,by decide⟩ ⟨show(0:Int)≤n by omega,show(n:Int)≤29 by omega⟩ ⟨by decide,by decide⟩
 |new o i c b a d e f=>
  have hi:=(List.getElem?_eq_some_iff.1 d).1
  have hc:=h6 c (List.mem_of_getElem? d)
  rcases a with rfl|rfl<;>exact vd_mk ⟨by decide,by decide⟩ ⟨show(1:Int)≤(i:Int)+1 by omega,show(i:Int)+1≤60 by omega⟩ ⟨e,show b≤30 by omega⟩
 |bin o a b=>exact vd_mk ⟨by decide,by decide⟩ ⟨a,b⟩ ⟨by decide,by decide⟩
 |jmp o n a b=>rcases a with rfl|rfl|rfl<;>exact vd_mk ⟨by decide,by decide⟩ ⟨show(0:Int)≤n by omega,show(n:Int)≤4000 by omega⟩ ⟨by decide,by decide⟩
theorem zMP {cs:List Tr.C} {c:Tr.C} {m:Tr.M} {g:Co.G} (h:Co.gM cs c m=some g):g.names.length≤1024∧g.code.length≤4000:=by
 unfold Co.gM at h
 dsimp only at h
 split at h
 ·cases h
 ·rename_i hb
  cases h
  omega
end Cw
end Go.Proofs.YtcnmfcgmnkncaaaGreatDoor
namespace Go.Proofs.YtcnmfcgmnkncaaaGreatDoor
namespace Cw
open Tr Co
structure SnM (cs:List C) (c:C) (x:Cm):Prop where
 good:∃(D:List Int) (g:G),Co.Good cs c.fields g D∧g.code=x.code∧g.names=x.names∧g.locals=x.locals
 par:x.params≤x.locals
 vd:∀z∈x.code,Vd z
 len:x.code.length≤4000
 loc:x.locals≤30
 nam:x.names.length≤1024
structure SnC (cs:List C) (c:C) (x:Cc):Prop where
 fields:x.fields=c.fields
 len:x.methods.length=c.methods.length
 all:∀(k:Nat) (y:Cm),x.methods[k]? =some y→SnM cs c y
theorem zVF {cs:List C} {l:List Cc} (hk:Ck.check cs= []) (hl:ccsOf cs cs=some l):l.length=cs.length∧cs.length≤60∧(∀c∈cs,c.fields.length≤30)∧∀(i:Nat) (x:Cc),l[i]? =some x→∃c,cs[i]? =some c∧SnC cs c x:=by
 obtain⟨hv,hn⟩:=(Ck.zVE cs).1 hk
 have h1:=zKE hl
 have h60:cs.length≤60:=Nat.le_of_not_lt fun h=>by
  have h2:=hn.cls 60 _ (List.getElem?_eq_getElem h) 0 (by omega)
  unfold Ck.faultC at h2
  simp at h2
 have h30:∀c∈cs,c.fields.length≤30:=fun c hc=>by
  obtain⟨i,hi⟩:=List.mem_iff_getElem?.1 hc
  have h2:=hn.cls i c hi 1 (by omega)
  unfold Ck.faultC at h2
  simp at h2
  omega
 refine⟨h1.1,h60,h30,fun i x hx=>?_⟩
 have hi:i<cs.length:=by rw [←h1.1];exact(List.getElem?_eq_some_iff.1 hx).1
 obtain⟨ms,hms,hl2⟩:=h1.2 i _ (List.getElem?_eq_getElem hi)
 refine⟨_,List.getElem?_eq_getElem hi,?_⟩
 have hc:cs[i]? =some cs[i]:=List.getElem?_eq_getElem hi
 generalize cs[i]=c at*
 rw [hl2] at hx
 injection hx with hx
 subst hx
 have h2:=zKB hms
 refine⟨rfl,h2.1,fun k y hy=>?_⟩
 have hy:ms[k]? =some y:=hy
 have hkl:k<c.methods.length:=by rw [←h2.1];exact(List.getElem?_eq_some_iff.1 hy).1
 have hm:c.methods[k]? =some c.methods[k]:=List.getElem?_eq_getElem hkl
 generalize c.methods[k]=m at*
 obtain⟨g,hg,hy2⟩:=h2.2 k m hm
 rw [hy] at hy2
 injection hy2 with hy2
 subst hy2
 have hvm:validSs m.body=true:=by
  unfold validP at hv
  have h3:=List.all_eq_true.1 hv c (List.mem_of_getElem? hc)
  unfold validC at h3
  rw [Bool.and_eq_true] at h3
  have h4:=List.all_eq_true.1 h3.2 m (List.mem_of_getElem? hm)
  unfold validM at h4
  rw [Bool.and_eq_true] at h4
  exact h4.2
 have hf:=hn.mth i c hc k m hm
 have h5:¬(8<m.params.length∨30<m.params.length+Ck.lets m.body):=fun h=>by
  have h3:=hf 5 (by omega)
  unfold Ck.faultM at h3
  rw [decide_eq_true h] at h3
  simp at h3
 have hb:∀t,t<13→Ck.faultSs cs c m.body m.params t=false:=fun t ht=>by
  have h3:=hf t ht
  unfold Ck.faultM at h3
  exact(Bool.or_eq_false_iff.1 h3).2
 obtain⟨D,hG⟩:=zT4 hg hvm hb
 have hlo:=zP3 hvm hg
 have hsz:=zMP hg
 have hle:g.locals≤30:=by omega
 exact⟨⟨D,g,hG,rfl,rfl,rfl⟩,by show m.params.length≤g.locals;omega,fun z hz=>by
  obtain⟨j,hj⟩:=List.mem_iff_getElem?.1 hz
  exact fin_vd (hG.ins j z hj) hsz.1 hle hsz.2 (h30 c (List.mem_of_getElem? hc)) h60 h30,hsz.2,hle,hsz.1⟩
theorem zVA {cs:List C} {fs:List ByteArray} {nn ln cl:Nat} {o a b:Int} (h:Fin cs fs nn ln cl false (o,a,b)) (hcl:cl≤4000):
 ∃n:Nat,(o=0∨a=(n:Int))∧(o=3∨o=4→n<ln)∧(o=6∨o=8∨o=21∨o=24→n<nn)∧(o=7∨o=9→n<fs.length)∧
  (o=10∨o=11→∃(i m:Nat) (c:C),n=i+1∧cs[i]? =some c∧b=(m:Int)∧m≤c.fields.length)∧(o≠0→o≠3→o≠4→o≠6→o≠8→o≠21→o≠24→o≠7→o≠9→o≠10→o≠11→n<4001):=by
 cases h with
 |push n a b=>exact ⟨0,.inl rfl,by omega,by omega,by omega,by omega,by omega⟩
 |flat o a=>exact ⟨0,.inr rfl,by omega,by omega,by omega,by omega,by omega⟩
 |loc o n a b=>exact ⟨n,.inr rfl,fun _=>b,by omega,by omega,by omega,by omega⟩
 |nam o n a b=>exact ⟨n,.inr rfl,by omega,fun _=>b,by omega,by omega,by omega⟩
 |snd n b a d e=>exact ⟨n,.inr rfl,by omega,fun _=>a,by omega,by omega,by omega⟩
 |own o n a b=>exact ⟨n,.inr rfl,by omega,by omega,fun _=>b,by omega,by omega⟩
 |new o i c b a d e f=>exact ⟨i+1,.inr (by omega),by omega,by omega,by omega,fun _=>⟨i,b.toNat,c,rfl,d,by omega,by omega⟩,by omega⟩
 |bin _ h0 h1=>exact ⟨a.toNat,.inr (by omega),by omega,by omega,by omega,by omega,by omega⟩
 |jmp o n a b=>
  have a:o=18∨o=19∨o=20:=a
  exact⟨n,.inr rfl,by omega,by omega,by omega,by omega,by omega⟩
end Cw
end Go.Proofs.YtcnmfcgmnkncaaaGreatDoor
namespace Go.Proofs.YtcnmfcgmnkncaaaGreatDoor
namespace Cw
open Go.RowKit Go.Maps Pw
def tgts (x:Co.Ins) (pc:Nat):List Int:=if x.1=25 then [] else if x.1=18 then [x.2.1] else if x.1=19∨x.1=20 then [(pc:Int)+1,x.2.1] else [(pc:Int)+1]
def SlN (w:World) (v:Value) (l:List Int):Prop:=∃p c,v= .slice p l.length c∧∀(j:Nat) (x:Int),l[j]? =some x→∃b o,p=some ⟨b,o,none⟩∧b<w.heap.size∧w.cell? ⟨b,o+j,none⟩=some (.int .i64 x)
theorem SlN.inc {w w':World} {v:Value} {l:List Int} (h:SlN w v l) (hb:Inc w w'):SlN w' v l:=by
 obtain⟨p,c,e,hx⟩:=h
 refine⟨p,c,e,fun j x hj=>?_⟩
 obtain⟨b,o,e2,h1,h2⟩:=hx j x hj
 exact⟨b,o,e2,Nat.lt_of_lt_of_le h1 hb.1,hb.2 _ _ _ h2⟩
theorem zVG (w:World):SlN w (.slice none 0 0) []:=⟨none,0,rfl,fun j x hj=>by cases hj⟩
theorem slN_1 {w:World} {g:Nat} {x:Int} {t:TypeId} (h:w.heap[g]? =some (.cells #[.int .i64 x] t (0,0))):SlN w (.slice (some ⟨g,0,none⟩) 1 1) [x]:=⟨_,_,rfl,fun j y hj=>by
 cases j with
 |zero=>cases hj;exact⟨g,0,rfl,lt_of_block h,zB h (j:=0) rfl⟩
 |succ j=>simp at hj⟩
theorem slN_2 {w:World} {g:Nat} {x y:Int} {t:TypeId} (h:w.heap[g]? =some (.cells #[.int .i64 x,.int .i64 y] t (0,0))):SlN w (.slice (some ⟨g,0,none⟩) 2 2) [x,y]:=⟨_,_,rfl,fun j z hj=>by
 match j,hj with
 |0,hj=>cases hj;exact⟨g,0,rfl,lt_of_block h,zB h (j:=0) rfl⟩
 |1,hj=>cases hj;exact⟨g,0,rfl,lt_of_block h,zB h (j:=1) rfl⟩
 |j+2,hj=>simp at hj⟩
theorem zUO {v:Value} {l:List Int}:Mn (fun W=>SlN W v l):=fun _ _ hi h=>h.inc hi
def TP (x:Co.Ins) (pc:Nat) (w:World) (e:Ending) (w':World):Prop:=∃v,e= .returned v∧Below w.heap.size w w'∧SlN (hide (upL w.heap.size []) w') v (tgts x pc)
set_option maxRecDepth 100000 in
set_option maxHeartbeats 4000000 in
theorem zUM (x:Co.Ins) (h:Vd x) (pc:Nat) (hp:pc≤4000) (w:World):Calls Tryz.prog 53 #[.agg #[.int .i64 x.1,.int .i64 x.2.1,.int .i64 x.2.2],.int .i64 pc] w (TP x pc w):=by
 obtain⟨o,a,b⟩:=x
 have HV:=zh h
 have hp9:=hp
 have C0:=zh (My.start w)
 clear h
 dsimp only
 obtain⟨I,w1,HX1,HW1,hx1,C1⟩:=C0.out.boxE #[.int .i64 o,.int .i64 a,.int .i64 b] 65
 go_enter Tryz.func53,Tryz.ntmps53
 go_upto_region 1 with fail
 rw [←HX1.out,←HW1.out]
 clear HX1 HW1 C0
 have q0:=cells3 (C1.out.b 0 rfl)
 go_wp2_with fail
 clear q0
 refine(zLV (o,a,b) HV.out w1).mono ?_
 rintro e w2 ⟨rfl,hb9⟩
 have C2:=zh (Mz.below C1.out hb9)
 clear hb9 C1
 by_cases ho:o=25
 ·subst ho
  have q0:=cells3 (C2.out.b 0 rfl)
  go_wp2_with fail
  clear q0
  go_ret
  exact⟨_,rfl,C2.out.gr.fresh,by show SlN _ _ (tgts (25,a,b) pc);rw [show tgts (25,a,b) pc= [] from rfl];exact zVG _⟩
 have h25:(o == 25)=false:=beq_eq_false_iff_ne.2 ho
 have hn25:=zh ho
 clear ho
 by_cases ho:o=18
 ·subst ho
  have q0:=cells3 (C2.out.b 0 rfl)
  obtain⟨T,w3,HX,HW,hx3,C3⟩:=C2.out.boxE #[.int .i64 a] 3
  go_wp2_with fail
  rw [←HX.out,←HW.out]
  clear HX HW C2 q0
  go_ret
  exact⟨_,rfl,C3.out.gr.fresh,by show SlN _ _ (tgts (18,a,b) pc);rw [show tgts (18,a,b) pc= [a] from rfl];exact My.seen (Mz.fold C3.out (r:=fun W=>SlN W (.slice (some ⟨T,0,none⟩) 1 1) [a]) zUO (fun U hU _=>slN_1 hU)) 0 rfl⟩
 have h18:(o == 18)=false:=beq_eq_false_iff_ne.2 ho
 have hn18:=zh ho
 clear ho
 by_cases ho:o=19
 ·subst ho
  have q0:=cells3 (C2.out.b 0 rfl)
  obtain⟨T,w4,HX,HW,hx4,C4⟩:=C2.out.boxE #[.int .i64 ((pc:Int)+1),.int .i64 a] 3
  go_wp2_with fail
  rw [←HX.out,←HW.out]
  clear HX HW C2 q0
  go_ret
  exact⟨_,rfl,C4.out.gr.fresh,by show SlN _ _ (tgts (19,a,b) pc);rw [show tgts (19,a,b) pc= [(pc:Int)+1,a] from rfl];exact My.seen (Mz.fold C4.out (r:=fun W=>SlN W (.slice (some ⟨T,0,none⟩) 2 2) [((pc:Int)+1),a]) zUO (fun U hU _=>slN_2 hU)) 0 rfl⟩
 have h19:(o == 19)=false:=beq_eq_false_iff_ne.2 ho
 have hn19:=zh ho
 clear ho
 by_cases ho:o=20
 ·subst ho
  have q0:=cells3 (C2.out.b 0 rfl)
  obtain⟨T,w5,HX,HW,hx5,C5⟩:=C2.out.boxE #[.int .i64 ((pc:Int)+1),.int .i64 a] 3
  go_wp2_with fail
  rw [←HX.out,←HW.out]
  clear HX HW C2 q0
  go_ret
  exact⟨_,rfl,C5.out.gr.fresh,by show SlN _ _ (tgts (20,a,b) pc);rw [show tgts (20,a,b) pc= [(pc:Int)+1,a] from rfl];exact My.seen (Mz.fold C5.out (r:=fun W=>SlN W (.slice (some ⟨T,0,none⟩) 2 2) [((pc:Int)+1),a]) zUO (fun U hU _=>slN_2 hU)) 0 rfl⟩
 have h20:(o == 20)=false:=beq_eq_false_iff_ne.2 ho
 have hn20:=zh ho
 clear ho
 have q0:=cells3 (C2.out.b 0 rfl)
 obtain⟨T,w6,HX,HW,hx6,C6⟩:=C2.out.boxE #[.int .i64 ((pc:Int)+1)] 3
 go_wp2_with fail
 rw [←HX.out,←HW.out]
 clear HX HW C2 q0
 go_ret
 exact⟨_,rfl,C6.out.gr.fresh,by show SlN _ _ (tgts (o,a,b) pc);rw [show tgts (o,a,b) pc= [(pc:Int)+1] from by unfold tgts;rw [if_neg hn25.out,if_neg hn18.out,if_neg (by have:=hn19.out;have:=hn20.out;dsimp only;omega)]];exact My.seen (Mz.fold C6.out (r:=fun W=>SlN W (.slice (some ⟨T,0,none⟩) 1 1) [((pc:Int)+1)]) zUO (fun U hU _=>slN_1 hU)) 0 rfl⟩
end Cw
end Go.Proofs.YtcnmfcgmnkncaaaGreatDoor
