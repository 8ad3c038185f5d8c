/-
  CompilerPrograms returns true for every input, and each argument reads afterwards as it read before; the listed package-level variables hold what the program's text lays.
-/
import Derived.Test.YtcnmfcgmnkncaaaGreatDoorP1
import Derived.Test.YtcnmfcgmnkncaaaGreatDoorX50
set_option maxRecDepth 100000
set_option maxHeartbeats 40000000
open Go.Proofs.Tryz
namespace Go.Proofs.YtcnmfcgmnkncaaaGreatDoor.compilerPrograms
open Go.RowKit Go.WideShapes Go.ChangeShapes Go.ChangeAt
open Go.ChangeMaps (setBlock shut_map_nil open_string shut_string)
theorem types:∀t∈ [24],prog.wantsStandIn t=false/\prog.readableRec t=true/\t<prog.types.size:=by
 intro t ht;simp only [kV,List.not_mem_nil,or_false] at ht;subst ht<;>exact ⟨by kernel_rfl,by kernel_rfl,of_decide_eq_true (by kernel_rfl)⟩
theorem param {t:TypeId} (ht:t∈Tryz.f3.params.toList):t∈ [24]:=by
 rw [Tryz.params3] at ht;simp only [kV,List.not_mem_nil,or_false] at ht |-;exact ht
theorem contract (H:Type) (enc:TypeId × Value->H) (W:World) (base:Nat) (args:Array Value) (ds gs:List (DataW H)) (before:List MemPlace)
 (hval:∀(j:Nat) t v,Tryz.f3.params[j]? =some t->args[j]? =some v->Value.okWide prog W .any base t v)
 (hW:DataW.Whole enc prog Tryz.f3.params.toList Rows.compilerProgramsSpec.vars false W args.toList ds gs before) (hL:laidMetH prog Rows.compilerProgramsRow.laid W):
 Calls prog 3 args W fun e W'=>∃v,e= .returned v/\Rows.compilerProgramsSpec.post enc prog Tryz.f3 false true false false W args v W':=by
 have hW':=hW;obtain⟨p,q,hA0,hV,rfl,hfz,hnd⟩:=hW;have hA:DataW.TrodAll enc prog W 0 (fun _=>true) true Tryz.f3.params.toList args.toList ds p:=hA0;rw [Tryz.params3] at hA hval;obtain⟨v0,vs0,d0,ds0,p0,q0,hargs,rfl,rfl,h0,r0⟩:=trodAll_cons hA;obtain⟨rfl,rfl,rfl⟩:=trodAll_nil r0;obtain rfl:args= #[v0]:=by cases args;simp_all
 obtain⟨rfl,rfl⟩:=trodVars_none hV;obtain⟨l0,a0,rfl,ws0⟩:=open_prog (hval 0 24 v0 rfl rfl) h0;clear hA0;have hE:=coEnv_of (show laidMetH prog Rows.compilerProgramsRow.laid W from hL);refine(Cw.zVM l0 a0 W hE ws0).mono fun e W' ⟨he,hb⟩=>?_
 subst he;exact⟨_,rfl,post_all laidOut hW' rfl (fun t ht=>(types t (param ht)).2) hb (fun _ _ _=>trodAll_cons_mk (shut_bool underlying4 _) trodAll_mk0) rfl rfl
  (ok_one (by kernel_rfl) rfl (okWide_bool_mk underlying4 _))⟩
theorem reads (os:Os) {H:Type} (enc:TypeId × Value->H):∃places,DataW.whole enc prog ((laidWorld os).forCall (fun _ _=>0) ⟨#[],#[.agg #[.slice none 0 0]],[]⟩).memory Tryz.f3.params.toList Rows.compilerProgramsSpec.vars false (#[.agg #[.slice none 0 0]]:Array Value).toList 8=some ([.agg [.nil]],[],places):=
 ⟨[],by kernel_rfl⟩
theorem lifted (os:Os) (started:os.Started) (H:Type) (enc:TypeId × Value->H) (F:Stop.Interp):
 ReturnsInHanded {} Tryz.checked os 3 .any ((OpenSpec.ofChange Rows.compilerProgramsSpec).preRow enc prog Tryz.f3 Rows.compilerProgramsRow.domain false Rows.compilerProgramsRow.laid) (((OpenSpec.ofChange Rows.compilerProgramsSpec).at F).post enc prog Tryz.f3 false true false false):=by
 obtain⟨places,hx⟩:=reads os enc;refine returnsInHanded_of_row (C:=Tryz.checked) (s:=OpenSpec.ofChange Rows.compilerProgramsSpec) own started (by kernel_rfl) func3
  (witness_row_atRef (enc:=enc) (C:=Tryz.checked) false (laidWorld os) #[.agg #[.slice none 0 0]] rfl (by kernel_rfl) (by kernel_rfl) (by kernel_rfl)
   (OpenSpec.preRow_of_cond 8 hx (by kernel_rfl) (fun k hk=>by cases hk) (by kernel_rfl) (show laidMet prog Rows.compilerProgramsRow.laid _ from laid_met os _))) ?_
 intro W base args ds gs before hval hW _ _ _ hL _ _;exact contract H enc W base args ds gs before hval hW hL
theorem said:Rows.CompilerProgramsSaid:=
 OpenClaim.holds_of_cond 3 Tryz.f3 rfl rfl rfl rfl rfl rfl rfl ⟨rfl,rfl,rfl,rfl,rfl⟩ rfl rfl rfl rfl rfl (by as_aux_lemma=>kernel_rfl) func3 (by as_aux_lemma=>kernel_rfl)
  (by as_aux_lemma=>exact of_decide_eq_true (by kernel_rfl)) (by unfold Func.isWrapper;first|(rw [kD (by decide+kernel)];kernel_rfl)|(rw [kC (by decide+kernel)];exact⟨rfl,rfl⟩))
  (fun os started H enc _ F=>by rw [OpenClaim.pre_eq_preRow];exact lifted os started H enc F)
theorem plain (f:FuncId) (fn:Func) (hf:Tryz.pinned.checked.prog.funcNamed Rows.compilerProgramsRow.func=some f) (hfn:Tryz.pinned.checked.prog.funcs[f]? =some fn):
 true=Tryz.pinned.checked.prog.looks []/\∀(j:Nat) t,fn.params[j]? =some t->Tryz.pinned.checked.prog.wantsStandIn t=false:=by
 obtain rfl:f=3:=Option.some.inj ((show prog.funcNamed Rows.compilerProgramsRow.func=some 3 by kernel_rfl).symm.trans hf)|>.symm;obtain rfl:fn=Tryz.f3:=(Option.some.inj (func3.symm.trans hfn)).symm;exact⟨by kernel_rfl,fun j t ht=>(types t (param (by rw [<-Array.getElem?_toList] at ht;exact kM ht))).1⟩
theorem card:Rows.CompilerProgramsCardSaid:=
 Claim7.holds_tied_plain_at .later [] _ _ _ _ said (fun _ h=>by cases h) (by kernel_rfl) (fun _ h=>by cases h) compilerPrograms_row_tie rfl ⟨rfl,rfl⟩ (by kernel_rfl) rfl plain (by kernel_rfl)
end Go.Proofs.YtcnmfcgmnkncaaaGreatDoor.compilerPrograms
