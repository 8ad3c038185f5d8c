/-
  CompilerSound returns true for every input, and each argument reads afterwards as it read before; the listed package-level variables hold what the program's text lays.
-/
import Derived.Test.YtcnmfcgmnkncaaaGreatDoorS5
import Derived.Test.YtcnmfcgmnkncaaaGreatDoorS7
namespace Go.Proofs.YtcnmfcgmnkncaaaGreatDoor.compilerSound
open Go.RowKit Go.WideShapes Go.ChangeShapes Go.ChangeAt
open Go.ChangeMaps (setBlock shut_map_nil open_string shut_string)
theorem types:∀t∈ [24],Tryz.prog.wantsStandIn t=false∧Tryz.prog.readableRec t=true∧t<Tryz.prog.types.size:=by
 intro t ht
 simp only [List.mem_cons,List.not_mem_nil,or_false] at ht
 subst ht<;>exact ⟨by kernel_rfl,by kernel_rfl,of_decide_eq_true (by kernel_rfl)⟩
theorem param {t:TypeId} (ht:t∈Tryz.f9.params.toList):t∈ [24]:=by
 rw [Tryz.params9] at ht
 simp only [List.mem_cons,List.not_mem_nil,or_false] at ht ⊢
 exact ht
set_option maxRecDepth 100000 in
theorem contract (H:Type) (enc:TypeId × Value→H) (W:World) (base:Nat) (args:Array Value) (ds gs:List (DataW H)) (before:List MemPlace)
 (hval:∀(j:Nat) t v,Tryz.f9.params[j]? =some t→args[j]? =some v→Value.okWide Tryz.prog W .any base t v)
 (hW:DataW.Whole enc Tryz.prog Tryz.f9.params.toList Rows.compilerSoundSpec.vars false W args.toList ds gs before) (hL:laidMetH Tryz.prog Rows.compilerSoundRow.laid W):
 Calls Tryz.prog 9 args W fun e W'=>∃v,e= .returned v∧Rows.compilerSoundSpec.post enc Tryz.prog Tryz.f9 false true false false W args v W':=by
 have hW':=hW
 obtain⟨p,q,hA0,hV,rfl,hfz,hnd⟩:=hW
 have hA:DataW.TrodAll enc Tryz.prog W 0 (fun _=>true) true Tryz.f9.params.toList args.toList ds p:=hA0
 rw [Tryz.params9] at hA hval
 obtain⟨v0,vs0,d0,ds0,p0,q0,hargs,rfl,rfl,h0,r0⟩:=trodAll_cons hA
 obtain⟨rfl,rfl,rfl⟩:=trodAll_nil r0
 obtain rfl:args= #[v0]:=by cases args;simp_all
 obtain⟨rfl,rfl⟩:=trodVars_none hV
 obtain⟨l0,a0,rfl,ws0⟩:=zU7 (hval 0 24 v0 rfl rfl) h0
 clear hA0
 have hE:=zUD (show laidMetH Tryz.prog Rows.compilerExecutesRow.laid W from hL)
 refine(Cw.zU9 l0 a0 W hE ws0).mono fun e W' ⟨he,hb⟩=>?_
 subst he
 exact⟨_,rfl,zRY laidOut hW' rfl (fun t ht=>(types t (param ht)).2) hb (fun _ _ _=>trodAll_cons_mk (shut_bool Tryz.underlying4 _) trodAll_mk0) rfl rfl
  (ok_one (by kernel_rfl) rfl (okWide_bool_mk Tryz.underlying4 _))⟩
theorem reads (os:Os) {H:Type} (enc:TypeId × Value→H):∃places,DataW.whole enc Tryz.prog ((laidWorld os).forCall (fun _ _=>0) ⟨#[],#[.agg #[.slice none 0 0]],[]⟩).memory Tryz.f9.params.toList Rows.compilerSoundSpec.vars false (#[.agg #[.slice none 0 0]]:Array Value).toList 8=some ([.agg [.nil]],[],places):=
 ⟨[],by kernel_rfl⟩
set_option maxRecDepth 100000 in
theorem lifted (os:Os) (started:os.Started) (H:Type) (enc:TypeId × Value→H) (F:Stop.Interp):
 ReturnsInHanded {} Tryz.checked os 9 .any ((OpenSpec.ofChange Rows.compilerSoundSpec).preRow enc Tryz.prog Tryz.f9 Rows.compilerSoundRow.domain false Rows.compilerSoundRow.laid) (((OpenSpec.ofChange Rows.compilerSoundSpec).at F).post enc Tryz.prog Tryz.f9 false true false false):=by
 obtain⟨places,hx⟩:=reads os enc
 refine returnsInHanded_of_row (C:=Tryz.checked) (s:=OpenSpec.ofChange Rows.compilerSoundSpec) own started (by kernel_rfl) Tryz.func9
  (witness_row_atRef (enc:=enc) (C:=Tryz.checked) false (laidWorld os) #[.agg #[.slice none 0 0]] rfl (by kernel_rfl) (by kernel_rfl) (by kernel_rfl)
   (OpenSpec.preRow_of_cond 8 hx (by kernel_rfl) (fun k hk=>by cases hk) (by kernel_rfl) (show laidMet Tryz.prog Rows.compilerExecutesRow.laid _ from zPU os _))) ?_
 intro W base args ds gs before hval hW _ _ _ hL _ _
 exact contract H enc W base args ds gs before hval hW hL
theorem said:Rows.CompilerSoundSaid:=
 OpenClaim.holds_of_cond 9 Tryz.f9 rfl rfl rfl rfl rfl rfl rfl ⟨rfl,rfl,rfl,rfl,rfl⟩ rfl rfl rfl rfl rfl (by kernel_rfl) Tryz.func9 (by kernel_rfl)
  (of_decide_eq_true (by kernel_rfl)) (by unfold Func.isWrapper;first|(rw [if_pos (by decide+kernel)];kernel_rfl)|(rw [if_neg (by decide+kernel)];exact⟨rfl,rfl⟩))
  (fun os started H enc _ F=>by rw [OpenClaim.pre_eq_preRow];exact lifted os started H enc F)
theorem plain (f:FuncId) (fn:Func) (hf:Tryz.pinned.checked.prog.funcNamed Rows.compilerSoundRow.func=some f) (hfn:Tryz.pinned.checked.prog.funcs[f]? =some fn):
 true=Tryz.pinned.checked.prog.looks []∧∀(j:Nat) t,fn.params[j]? =some t→Tryz.pinned.checked.prog.wantsStandIn t=false:=by
 obtain rfl:f=9:=Option.some.inj ((show Tryz.prog.funcNamed Rows.compilerSoundRow.func=some 9 by kernel_rfl).symm.trans hf)|>.symm
 obtain rfl:fn=Tryz.f9:=(Option.some.inj (Tryz.func9.symm.trans hfn)).symm
 exact⟨by kernel_rfl,fun j t ht=>(types t (param (by rw [←Array.getElem?_toList] at ht;exact List.mem_of_getElem? ht))).1⟩
theorem card:Rows.CompilerSoundCardSaid:=
 Claim7.holds_tied_plain_at .later [] _ _ _ _ said (fun _ h=>by cases h) (by kernel_rfl) (fun _ h=>by cases h) compilerSound_row_tie rfl ⟨rfl,rfl⟩ (by kernel_rfl) rfl plain (by kernel_rfl)
end Go.Proofs.YtcnmfcgmnkncaaaGreatDoor.compilerSound
