/-
  Several texts in one: CoLawSafe, CoObs, CoOps, CoSound.
-/
import Derived.Test.YtcnmfcgmnkncaaaGreatDoorJ29
import Derived.Deep.WholeRow
import Derived.Deep.DeepCutAuto
import Derived.WalkLawsBesides
namespace Go.Proofs.YtcnmfcgmnkncaaaGreatDoor
namespace Cw
open Go.RowKit Go.Maps Pw
theorem Mz.retAA {B0 V:Nat} {w W:World} {o0 ow:List Nat} {Q:World→Prop} {bs:List Bk} {os:List (World→Prop)} {R R2:Nat} {cs cs2:Array Value} {t:TypeId} {fn:Func} {q q2:Tmp} {A:Act} {Post:Ending→World→Prop} (h:Mz B0 V w o0 Q ow bs os W) (i j:Nat) (hi:bs[i]? =some (R,cs,t)) (hj:bs[j]? =some (R2,cs2,t)) (hr:fn.results= #[.cell q t,.cell q2 t]) (hq:A.tmps.getD q undef= .pointer (some ⟨R,0,none⟩)) (hq2:A.tmps.getD q2 undef= .pointer (some ⟨R2,0,none⟩)) (hd:A.defers= []) (hu:∃fs,Tryz.prog.underlying t=some (.struct fs)) (hz:(Tryz.prog.info? t).map (·.size)=some cs.size) (hz2:(Tryz.prog.info? t).map (·.size)=some cs2.size) (hp:Post (.returned (.tuple #[.agg cs,.agg cs2])) W):
 bodyPost Tryz.prog fn Post .ret A W:=by
 obtain⟨fs,hu⟩:=hu
 refine bodyPost_ret (v:= .tuple #[.agg cs,.agg cs2]) ?_ hd hp
 simp only [results,hr]
 have hq':A.tmps[q]?.getD undef= .pointer (some ⟨R,0,none⟩):=by simpa using hq
 have hq2':A.tmps[q2]?.getD undef= .pointer (some ⟨R2,0,none⟩):=by simpa using hq2
 simp [hq',hq2',asAddr,run_loadVar_row W R t t cs (0,0) _ (h.b i hi) hu rfl hz,run_loadVar_row W R2 t t cs2 (0,0) _ (h.b j hj) hu rfl hz2]
def vOf (a:Int):Co.Val:=if a= -9223372036854775808 then none else some (Co.wrap a)
set_option maxRecDepth 100000 in
set_option maxHeartbeats 16000000 in
theorem zKU (a b:Int) (w:World):
 Calls Tryz.prog 21 #[.int .i64 a,.int .i64 b] w fun e w'=>e= .returned (.tuple #[vV (vOf a),vV (vOf b)])∧Below w.heap.size w w':=by
 by_cases ha:a= -9223372036854775808
 ·subst ha
  by_cases hb:b= -9223372036854775808
  ·subst hb
   have C0:=zh (My.start w)
   have KW1:Hid (∀w,Calls Tryz.prog 46 #[.int .i64 ((-9223372036854775808))] w fun e w'=>e= .returned (.int .i64 (Co.wrap ((-9223372036854775808))))∧w'=w):=zh (fun w=>zAD _ w)
   obtain⟨Z1,hZ1⟩:∃q,Co.wrap ((-9223372036854775808))=q:=⟨_,rfl⟩
   rw [hZ1] at KW1
   have HZ1:=zh hZ1
   clear hZ1
   have KW2:Hid (∀w,Calls Tryz.prog 46 #[.int .i64 ((-9223372036854775808))] w fun e w'=>e= .returned (.int .i64 (Co.wrap ((-9223372036854775808))))∧w'=w):=zh (fun w=>zAD _ w)
   obtain⟨Z2,hZ2⟩:∃q,Co.wrap ((-9223372036854775808))=q:=⟨_,rfl⟩
   rw [hZ2] at KW2
   have HZ2:=zh hZ2
   clear hZ2
   obtain⟨R1,w1,HX1,HW1,hx1,C1⟩:=C0.out.boxE #[.bool false,.int .i64 0] 43
   obtain⟨R2,w2,HX2,HW2,hx2,C2⟩:=C1.out.boxE #[.bool false,.int .i64 0] 43
   have HY2:Hid (R2=R1+1):=zh (by rw [HX2.out,HW1.out,HX1.out];simp)
   go_enter Tryz.func21,Tryz.ntmps21
   go_upto_region 1 with fail
   rw [←HX1.out,←HW1.out,←HY2.out,←HW2.out]
   clear HX1 HW1 C0 HY2 HX2 HW2 C1
   go_wp2_with fail
   refine(KW1.out _).mono ?_
   rintro e w' ⟨rfl,hww⟩
   rw [hww]
   clear hww w'
   go_wp2_with fail
   refine(KW2.out _).mono ?_
   rintro e w' ⟨rfl,hww⟩
   rw [hww]
   clear hww w'
   obtain⟨X,w3,HX3,HW3,hx3,C3⟩:=C2.out.boxE #[.bool true,.int .i64 Z1] 43
   obtain⟨Y,w4,HX4,HW4,hx4,C4⟩:=C3.out.boxE #[.bool true,.int .i64 Z2] 43
   have HY4:Hid (Y=X+1):=zh (by rw [HX4.out,HW3.out,HX3.out];simp)
   go_upto_region 2 with fail
   rw [←HX3.out,←HW3.out,←HY4.out,←HW4.out]
   clear HX3 HW3 C2 HY4 HX4 HW4 C3
   have q1:=cells2 (C4.out.b 1 rfl)
   obtain⟨w5,HW,C5⟩:=C4.out.set2 1 rfl (.bool false) (.int .i64 0)
   dsimp only [List.set] at C5
   go_upto_region 4 with fail
   rw [←HW.out]
   clear HW C4 q1
   have q0:=cells2 (C5.out.b 0 rfl)
   obtain⟨w6,HW,C6⟩:=C5.out.set2 0 rfl (.bool false) (.int .i64 0)
   dsimp only [List.set] at C6
   go_upto_region 6 with fail
   rw [←HW.out]
   clear HW C5 q0
   obtain⟨w7,HW,C7⟩:=C6.out.drewE
   refine wp_region_held_drew (S:=fun W=>W.cell? ⟨X,0,none⟩=some (.bool false)∧W.cell? ⟨X,1,none⟩=some (.int .i64 0)∧W.cell? ⟨Y,0,none⟩=some (.bool false)∧W.cell? ⟨Y,1,none⟩=some (.int .i64 0)) (by kernel_rfl) (by rw [←HW.out];exact⟨zB (C7.out.b 1 rfl) (j:=0) rfl,zB (C7.out.b 1 rfl) (j:=1) rfl,zB (C7.out.b 0 rfl) (j:=0) rfl,zB (C7.out.b 0 rfl) (j:=1) rfl⟩) (fun hHeld=>?_)
   rw [←HW.out] at hHeld ⊢
   clear HW C6
   refine rU 0 (some 20) ?_
   refine rU 1 (some 21) ?_
   clear hHeld
   refine rR1 2 none (fun K hK=>?_)
   have q3:=cells2 (C7.out.b 3 rfl)
   obtain⟨w8,HW,C8⟩:=C7.out.set2 3 rfl (.bool false) (.int .i64 0)
   dsimp only [List.set] at C8
   go_simp
   rw [←HW.out]
   clear HW C7 q3
   refine hK.out _ _ ?_ (fun hHeld=>?_)
   ·exact⟨zB (C8.out.b 1 rfl) (j:=0) rfl,zB (C8.out.b 1 rfl) (j:=1) rfl,zB (C8.out.b 0 rfl) (j:=0) rfl,zB (C8.out.b 0 rfl) (j:=1) rfl⟩
   clear hK K
   try simp only [Act.put,q0,q1,q2]
   clear hHeld
   refine rR1 3 none (fun K hK=>?_)
   have q2:=cells2 (C8.out.b 2 rfl)
   obtain⟨w9,HW,C9⟩:=C8.out.set2 2 rfl (.bool false) (.int .i64 0)
   dsimp only [List.set] at C9
   go_simp
   rw [←HW.out]
   clear HW C8 q2
   refine hK.out _ _ ?_ (fun hHeld=>?_)
   ·exact⟨zB (C9.out.b 1 rfl) (j:=0) rfl,zB (C9.out.b 1 rfl) (j:=1) rfl,zB (C9.out.b 0 rfl) (j:=0) rfl,zB (C9.out.b 0 rfl) (j:=1) rfl⟩
   clear hK K
   try simp only [Act.put,q0,q1,q2]
   clear hHeld
   refine wpAnyH_done (by kernel_rfl) ?_ _
   go_wp2_with fail
   refine Mz.retAA C9.out 3 2 rfl rfl Tryz.results21 rfl rfl rfl ⟨_,Tryz.underlying43⟩ (by kernel_rfl) (by kernel_rfl) ⟨?_,C9.out.gr.fresh⟩
   unfold vV vOf
   rw [if_pos rfl]
   rfl
  ·have C0:=zh (My.start w)
   have KW1:Hid (∀w,Calls Tryz.prog 46 #[.int .i64 ((-9223372036854775808))] w fun e w'=>e= .returned (.int .i64 (Co.wrap ((-9223372036854775808))))∧w'=w):=zh (fun w=>zAD _ w)
   obtain⟨Z1,hZ1⟩:∃q,Co.wrap ((-9223372036854775808))=q:=⟨_,rfl⟩
   rw [hZ1] at KW1
   have HZ1:=zh hZ1
   clear hZ1
   have KW2:Hid (∀w,Calls Tryz.prog 46 #[.int .i64 (b)] w fun e w'=>e= .returned (.int .i64 (Co.wrap (b)))∧w'=w):=zh (fun w=>zAD _ w)
   obtain⟨Z2,hZ2⟩:∃q,Co.wrap (b)=q:=⟨_,rfl⟩
   rw [hZ2] at KW2
   have HZ2:=zh hZ2
   clear hZ2
   have hb0:(b == -9223372036854775808)=false:=beq_eq_false_iff_ne.2 hb
   have HB:=zh hb
   clear hb
   obtain⟨R1,w10,HX10,HW10,hx10,C10⟩:=C0.out.boxE #[.bool false,.int .i64 0] 43
   obtain⟨R2,w11,HX11,HW11,hx11,C11⟩:=C10.out.boxE #[.bool false,.int .i64 0] 43
   have HY11:Hid (R2=R1+1):=zh (by rw [HX11.out,HW10.out,HX10.out];simp)
   go_enter Tryz.func21,Tryz.ntmps21
   go_upto_region 1 with fail
   rw [←HX10.out,←HW10.out,←HY11.out,←HW11.out]
   clear HX10 HW10 C0 HY11 HX11 HW11 C10
   go_wp2_with fail
   refine(KW1.out _).mono ?_
   rintro e w' ⟨rfl,hww⟩
   rw [hww]
   clear hww w'
   go_wp2_with fail
   refine(KW2.out _).mono ?_
   rintro e w' ⟨rfl,hww⟩
   rw [hww]
   clear hww w'
   obtain⟨X,w12,HX12,HW12,hx12,C12⟩:=C11.out.boxE #[.bool true,.int .i64 Z1] 43
   obtain⟨Y,w13,HX13,HW13,hx13,C13⟩:=C12.out.boxE #[.bool true,.int .i64 Z2] 43
   have HY13:Hid (Y=X+1):=zh (by rw [HX13.out,HW12.out,HX12.out];simp)
   go_upto_region 2 with fail
   rw [←HX12.out,←HW12.out,←HY13.out,←HW13.out]
   clear HX12 HW12 C11 HY13 HX13 HW13 C12
   have q1:=cells2 (C13.out.b 1 rfl)
   obtain⟨w14,HW,C14⟩:=C13.out.set2 1 rfl (.bool false) (.int .i64 0)
   dsimp only [List.set] at C14
   go_upto_region 4 with fail
   rw [←HW.out]
   clear HW C13 q1
   go_upto_region 6 with fail
   obtain⟨w15,HW,C15⟩:=C14.out.drewE
   refine wp_region_held_drew (S:=fun W=>W.cell? ⟨X,0,none⟩=some (.bool false)∧W.cell? ⟨X,1,none⟩=some (.int .i64 0)∧W.cell? ⟨Y,0,none⟩=some (.bool true)∧W.cell? ⟨Y,1,none⟩=some (.int .i64 Z2)) (by kernel_rfl) (by rw [←HW.out];exact⟨zB (C15.out.b 1 rfl) (j:=0) rfl,zB (C15.out.b 1 rfl) (j:=1) rfl,zB (C15.out.b 0 rfl) (j:=0) rfl,zB (C15.out.b 0 rfl) (j:=1) rfl⟩) (fun hHeld=>?_)
   rw [←HW.out] at hHeld ⊢
   clear HW C14
   refine rU 0 (some 20) ?_
   refine rU 1 (some 21) ?_
   clear hHeld
   refine rR1 2 none (fun K hK=>?_)
   have q3:=cells2 (C15.out.b 3 rfl)
   obtain⟨w16,HW,C16⟩:=C15.out.set2 3 rfl (.bool false) (.int .i64 0)
   dsimp only [List.set] at C16
   go_simp
   rw [←HW.out]
   clear HW C15 q3
   refine hK.out _ _ ?_ (fun hHeld=>?_)
   ·exact⟨zB (C16.out.b 1 rfl) (j:=0) rfl,zB (C16.out.b 1 rfl) (j:=1) rfl,zB (C16.out.b 0 rfl) (j:=0) rfl,zB (C16.out.b 0 rfl) (j:=1) rfl⟩
   clear hK K
   try simp only [Act.put,q0,q1,q2]
   clear hHeld
   refine rR1 3 none (fun K hK=>?_)
   have q2:=cells2 (C16.out.b 2 rfl)
   obtain⟨w17,HW,C17⟩:=C16.out.set2 2 rfl (.bool true) (.int .i64 Z2)
   dsimp only [List.set] at C17
   go_simp
   rw [←HW.out]
   clear HW C16 q2
   refine hK.out _ _ ?_ (fun hHeld=>?_)
   ·exact⟨zB (C17.out.b 1 rfl) (j:=0) rfl,zB (C17.out.b 1 rfl) (j:=1) rfl,zB (C17.out.b 0 rfl) (j:=0) rfl,zB (C17.out.b 0 rfl) (j:=1) rfl⟩
   clear hK K
   try simp only [Act.put,q0,q1,q2]
   clear hHeld
   refine wpAnyH_done (by kernel_rfl) ?_ _
   go_wp2_with fail
   refine Mz.retAA C17.out 3 2 rfl rfl Tryz.results21 rfl rfl rfl ⟨_,Tryz.underlying43⟩ (by kernel_rfl) (by kernel_rfl) ⟨?_,C17.out.gr.fresh⟩
   unfold vV vOf
   rw [if_pos rfl,if_neg HB.out,HZ2.out]
   rfl
 ·by_cases hb:b= -9223372036854775808
  ·subst hb
   have C0:=zh (My.start w)
   have KW1:Hid (∀w,Calls Tryz.prog 46 #[.int .i64 (a)] w fun e w'=>e= .returned (.int .i64 (Co.wrap (a)))∧w'=w):=zh (fun w=>zAD _ w)
   obtain⟨Z1,hZ1⟩:∃q,Co.wrap (a)=q:=⟨_,rfl⟩
   rw [hZ1] at KW1
   have HZ1:=zh hZ1
   clear hZ1
   have KW2:Hid (∀w,Calls Tryz.prog 46 #[.int .i64 ((-9223372036854775808))] w fun e w'=>e= .returned (.int .i64 (Co.wrap ((-9223372036854775808))))∧w'=w):=zh (fun w=>zAD _ w)
   obtain⟨Z2,hZ2⟩:∃q,Co.wrap ((-9223372036854775808))=q:=⟨_,rfl⟩
   rw [hZ2] at KW2
   have HZ2:=zh hZ2
   clear hZ2
   have ha0:(a == -9223372036854775808)=false:=beq_eq_false_iff_ne.2 ha
   have HA:=zh ha
   clear ha
   obtain⟨R1,w18,HX18,HW18,hx18,C18⟩:=C0.out.boxE #[.bool false,.int .i64 0] 43
   obtain⟨R2,w19,HX19,HW19,hx19,C19⟩:=C18.out.boxE #[.bool false,.int .i64 0] 43
   have HY19:Hid (R2=R1+1):=zh (by rw [HX19.out,HW18.out,HX18.out];simp)
   go_enter Tryz.func21,Tryz.ntmps21
   go_upto_region 1 with fail
   rw [←HX18.out,←HW18.out,←HY19.out,←HW19.out]
   clear HX18 HW18 C0 HY19 HX19 HW19 C18
   go_wp2_with fail
   refine(KW1.out _).mono ?_
   rintro e w' ⟨rfl,hww⟩
   rw [hww]
   clear hww w'
   go_wp2_with fail
   refine(KW2.out _).mono ?_
   rintro e w' ⟨rfl,hww⟩
   rw [hww]
   clear hww w'
   obtain⟨X,w20,HX20,HW20,hx20,C20⟩:=C19.out.boxE #[.bool true,.int .i64 Z1] 43
   obtain⟨Y,w21,HX21,HW21,hx21,C21⟩:=C20.out.boxE #[.bool true,.int .i64 Z2] 43
   have HY21:Hid (Y=X+1):=zh (by rw [HX21.out,HW20.out,HX20.out];simp)
   go_upto_region 2 with fail
   rw [←HX20.out,←HW20.out,←HY21.out,←HW21.out]
   clear HX20 HW20 C19 HY21 HX21 HW21 C20
   have q0:=cells2 (C21.out.b 0 rfl)
   obtain⟨w22,HW,C22⟩:=C21.out.set2 0 rfl (.bool false) (.int .i64 0)
   dsimp only [List.set] at C22
   go_upto_region 6 with fail
   rw [←HW.out]
   clear HW C21 q0
   obtain⟨w23,HW,C23⟩:=C22.out.drewE
   refine wp_region_held_drew (S:=fun W=>W.cell? ⟨X,0,none⟩=some (.bool true)∧W.cell? ⟨X,1,none⟩=some (.int .i64 Z1)∧W.cell? ⟨Y,0,none⟩=some (.bool false)∧W.cell? ⟨Y,1,none⟩=some (.int .i64 0)) (by kernel_rfl) (by rw [←HW.out];exact⟨zB (C23.out.b 1 rfl) (j:=0) rfl,zB (C23.out.b 1 rfl) (j:=1) rfl,zB (C23.out.b 0 rfl) (j:=0) rfl,zB (C23.out.b 0 rfl) (j:=1) rfl⟩) (fun hHeld=>?_)
   rw [←HW.out] at hHeld ⊢
   clear HW C22
   refine rU 0 (some 20) ?_
   refine rU 1 (some 21) ?_
   clear hHeld
   refine rR1 2 none (fun K hK=>?_)
   have q3:=cells2 (C23.out.b 3 rfl)
   obtain⟨w24,HW,C24⟩:=C23.out.set2 3 rfl (.bool true) (.int .i64 Z1)
   dsimp only [List.set] at C24
   go_simp
   rw [←HW.out]
   clear HW C23 q3
   refine hK.out _ _ ?_ (fun hHeld=>?_)
   ·exact⟨zB (C24.out.b 1 rfl) (j:=0) rfl,zB (C24.out.b 1 rfl) (j:=1) rfl,zB (C24.out.b 0 rfl) (j:=0) rfl,zB (C24.out.b 0 rfl) (j:=1) rfl⟩
   clear hK K
   try simp only [Act.put,q0,q1,q2]
   clear hHeld
   refine rR1 3 none (fun K hK=>?_)
   have q2:=cells2 (C24.out.b 2 rfl)
   obtain⟨w25,HW,C25⟩:=C24.out.set2 2 rfl (.bool false) (.int .i64 0)
   dsimp only [List.set] at C25
   go_simp
   rw [←HW.out]
   clear HW C24 q2
   refine hK.out _ _ ?_ (fun hHeld=>?_)
   ·exact⟨zB (C25.out.b 1 rfl) (j:=0) rfl,zB (C25.out.b 1 rfl) (j:=1) rfl,zB (C25.out.b 0 rfl) (j:=0) rfl,zB (C25.out.b 0 rfl) (j:=1) rfl⟩
   clear hK K
   try simp only [Act.put,q0,q1,q2]
   clear hHeld
   refine wpAnyH_done (by kernel_rfl) ?_ _
   go_wp2_with fail
   refine Mz.retAA C25.out 3 2 rfl rfl Tryz.results21 rfl rfl rfl ⟨_,Tryz.underlying43⟩ (by kernel_rfl) (by kernel_rfl) ⟨?_,C25.out.gr.fresh⟩
   unfold vV vOf
   rw [if_neg HA.out,if_pos rfl,HZ1.out]
   rfl
  ·have C0:=zh (My.start w)
   have KW1:Hid (∀w,Calls Tryz.prog 46 #[.int .i64 (a)] w fun e w'=>e= .returned (.int .i64 (Co.wrap (a)))∧w'=w):=zh (fun w=>zAD _ w)
   obtain⟨Z1,hZ1⟩:∃q,Co.wrap (a)=q:=⟨_,rfl⟩
   rw [hZ1] at KW1
   have HZ1:=zh hZ1
   clear hZ1
   have KW2:Hid (∀w,Calls Tryz.prog 46 #[.int .i64 (b)] w fun e w'=>e= .returned (.int .i64 (Co.wrap (b)))∧w'=w):=zh (fun w=>zAD _ w)
   obtain⟨Z2,hZ2⟩:∃q,Co.wrap (b)=q:=⟨_,rfl⟩
   rw [hZ2] at KW2
   have HZ2:=zh hZ2
   clear hZ2
   have ha0:(a == -9223372036854775808)=false:=beq_eq_false_iff_ne.2 ha
   have HA:=zh ha
   clear ha
   have hb0:(b == -9223372036854775808)=false:=beq_eq_false_iff_ne.2 hb
   have HB:=zh hb
   clear hb
   obtain⟨R1,w26,HX26,HW26,hx26,C26⟩:=C0.out.boxE #[.bool false,.int .i64 0] 43
   obtain⟨R2,w27,HX27,HW27,hx27,C27⟩:=C26.out.boxE #[.bool false,.int .i64 0] 43
   have HY27:Hid (R2=R1+1):=zh (by rw [HX27.out,HW26.out,HX26.out];simp)
   go_enter Tryz.func21,Tryz.ntmps21
   go_upto_region 1 with fail
   rw [←HX26.out,←HW26.out,←HY27.out,←HW27.out]
   clear HX26 HW26 C0 HY27 HX27 HW27 C26
   go_wp2_with fail
   refine(KW1.out _).mono ?_
   rintro e w' ⟨rfl,hww⟩
   rw [hww]
   clear hww w'
   go_wp2_with fail
   refine(KW2.out _).mono ?_
   rintro e w' ⟨rfl,hww⟩
   rw [hww]
   clear hww w'
   obtain⟨X,w28,HX28,HW28,hx28,C28⟩:=C27.out.boxE #[.bool true,.int .i64 Z1] 43
   obtain⟨Y,w29,HX29,HW29,hx29,C29⟩:=C28.out.boxE #[.bool true,.int .i64 Z2] 43
   have HY29:Hid (Y=X+1):=zh (by rw [HX29.out,HW28.out,HX28.out];simp)
   go_upto_region 2 with fail
   rw [←HX28.out,←HW28.out,←HY29.out,←HW29.out]
   clear HX28 HW28 C27 HY29 HX29 HW29 C28
   go_upto_region 6 with fail
   obtain⟨w30,HW,C30⟩:=C29.out.drewE
   refine wp_region_held_drew (S:=fun W=>W.cell? ⟨X,0,none⟩=some (.bool true)∧W.cell? ⟨X,1,none⟩=some (.int .i64 Z1)∧W.cell? ⟨Y,0,none⟩=some (.bool true)∧W.cell? ⟨Y,1,none⟩=some (.int .i64 Z2)) (by kernel_rfl) (by rw [←HW.out];exact⟨zB (C30.out.b 1 rfl) (j:=0) rfl,zB (C30.out.b 1 rfl) (j:=1) rfl,zB (C30.out.b 0 rfl) (j:=0) rfl,zB (C30.out.b 0 rfl) (j:=1) rfl⟩) (fun hHeld=>?_)
   rw [←HW.out] at hHeld ⊢
   clear HW C29
   refine rU 0 (some 20) ?_
   refine rU 1 (some 21) ?_
   clear hHeld
   refine rR1 2 none (fun K hK=>?_)
   have q3:=cells2 (C30.out.b 3 rfl)
   obtain⟨w31,HW,C31⟩:=C30.out.set2 3 rfl (.bool true) (.int .i64 Z1)
   dsimp only [List.set] at C31
   go_simp
   rw [←HW.out]
   clear HW C30 q3
   refine hK.out _ _ ?_ (fun hHeld=>?_)
   ·exact⟨zB (C31.out.b 1 rfl) (j:=0) rfl,zB (C31.out.b 1 rfl) (j:=1) rfl,zB (C31.out.b 0 rfl) (j:=0) rfl,zB (C31.out.b 0 rfl) (j:=1) rfl⟩
   clear hK K
   try simp only [Act.put,q0,q1,q2]
   clear hHeld
   refine rR1 3 none (fun K hK=>?_)
   have q2:=cells2 (C31.out.b 2 rfl)
   obtain⟨w32,HW,C32⟩:=C31.out.set2 2 rfl (.bool true) (.int .i64 Z2)
   dsimp only [List.set] at C32
   go_simp
   rw [←HW.out]
   clear HW C31 q2
   refine hK.out _ _ ?_ (fun hHeld=>?_)
   ·exact⟨zB (C32.out.b 1 rfl) (j:=0) rfl,zB (C32.out.b 1 rfl) (j:=1) rfl,zB (C32.out.b 0 rfl) (j:=0) rfl,zB (C32.out.b 0 rfl) (j:=1) rfl⟩
   clear hK K
   try simp only [Act.put,q0,q1,q2]
   clear hHeld
   refine wpAnyH_done (by kernel_rfl) ?_ _
   go_wp2_with fail
   refine Mz.retAA C32.out 3 2 rfl rfl Tryz.results21 rfl rfl rfl ⟨_,Tryz.underlying43⟩ (by kernel_rfl) (by kernel_rfl) ⟨?_,C32.out.gr.fresh⟩
   unfold vV vOf
   rw [if_neg HA.out,if_neg HB.out,HZ1.out,HZ2.out]
   rfl
abbrev A1 (b:Nat) (x0:Value) (U:World):Prop:=U.cell? ⟨b,0,none⟩=some (x0)
abbrev A2 (b:Nat) (x0 x1:Value) (U:World):Prop:=U.cell? ⟨b,0,none⟩=some (x0)∧U.cell? ⟨b,1,none⟩=some (x1)
abbrev A3 (b:Nat) (x0 x1 x2:Value) (U:World):Prop:=U.cell? ⟨b,0,none⟩=some (x0)∧U.cell? ⟨b,1,none⟩=some (x1)∧U.cell? ⟨b,2,none⟩=some (x2)
theorem mnA3 {b:Nat} {x0 x1 x2:Value}:Mn (A3 b x0 x1 x2):=fun _ _ hi h=>⟨hi.2 _ _ _ h.1,hi.2 _ _ _ h.2.1,hi.2 _ _ _ h.2.2⟩
theorem Mz.foldA3 {w W:World} {bs:List Bk} {os:List (World→Prop)} {X:Nat} {x0 x1 x2:Value} {t:TypeId} (h:Mz 0 0 w [] (fun _=>True) [] ((X,#[x0,x1,x2],t)::bs) os W):Mz 0 0 w [] (fun _=>True) [] bs (A3 X x0 x1 x2::os) W:=h.fold mnA3 (fun _ hU _=>⟨zB hU (j:=0) rfl,zB hU (j:=1) rfl,zB hU (j:=2) rfl⟩)
abbrev B3 (b o:Nat) (x0 x1 x2:Value) (U:World):Prop:=U.cell? ⟨b,o,none⟩=some (x0)∧U.cell? ⟨b,o+1,none⟩=some (x1)∧U.cell? ⟨b,o+2,none⟩=some (x2)
abbrev B4 (b o:Nat) (x0 x1 x2 x3:Value) (U:World):Prop:=U.cell? ⟨b,o,none⟩=some (x0)∧U.cell? ⟨b,o+1,none⟩=some (x1)∧U.cell? ⟨b,o+2,none⟩=some (x2)∧U.cell? ⟨b,o+3,none⟩=some (x3)
theorem mnB4 {b o:Nat} {x0 x1 x2 x3:Value}:Mn (B4 b o x0 x1 x2 x3):=fun _ _ hi h=>⟨hi.2 _ _ _ h.1,hi.2 _ _ _ h.2.1,hi.2 _ _ _ h.2.2.1,hi.2 _ _ _ h.2.2.2⟩
abbrev B5 (b o:Nat) (x0 x1 x2 x3 x4:Value) (U:World):Prop:=U.cell? ⟨b,o,none⟩=some (x0)∧U.cell? ⟨b,o+1,none⟩=some (x1)∧U.cell? ⟨b,o+2,none⟩=some (x2)∧U.cell? ⟨b,o+3,none⟩=some (x3)∧U.cell? ⟨b,o+4,none⟩=some (x4)
theorem mnB5 {b o:Nat} {x0 x1 x2 x3 x4:Value}:Mn (B5 b o x0 x1 x2 x3 x4):=fun _ _ hi h=>⟨hi.2 _ _ _ h.1,hi.2 _ _ _ h.2.1,hi.2 _ _ _ h.2.2.1,hi.2 _ _ _ h.2.2.2.1,hi.2 _ _ _ h.2.2.2.2⟩
section
variable {w W:World} {os:List (World→Prop)}
theorem Mo.cc (h:Mo w os W) (i:Nat) {p:Option Addr} {N c:Nat} {l:List Co.Cc} (hi:os[i]? =some (RCc (.slice p N c) l)) {j:Nat} {x:Co.Cc} (hx:l[j]? =some x):
 ∃b o px nx cx py ny cy,p=some ⟨b,o,none⟩∧b<W.heap.size∧nx=x.fields.length∧ny=x.methods.length∧Hid (Mo w (B4 b (o+j*4) (.string x.name) (.bool x.actor) (.slice px nx cx) (.slice py ny cy)::RN (.slice px nx cx) x.fields::RMm (.slice py ny cy) x.methods::os) W):=by
 obtain⟨b,o,x1,y1,hp,hb,hc,_,h1,h2⟩:=SlCc.get (h.rd i hi) hx
 have h1':=h1
 have h2':=h2
 obtain⟨px,cx,e1,_⟩:=h1'
 obtain⟨py,cy,rfl,_⟩:=h2'.form
 subst e1
 exact⟨b,o,px,_,cx,py,_,cy,hp,hb,rfl,rfl,zh (Mo.add (Mo.add (Mo.add h zSY h2) rn_mn h1) mnB4 hc)⟩
theorem Mo.cm (h:Mo w os W) (i:Nat) {p:Option Addr} {N c:Nat} {l:List Co.Cm} (hi:os[i]? =some (RMm (.slice p N c) l)) {j:Nat} {x:Co.Cm} (hx:l[j]? =some x):
 ∃b o px nx cx py ny cy,p=some ⟨b,o,none⟩∧b<W.heap.size∧nx=x.code.length∧ny=x.names.length∧nx≤maxLen∧ny≤maxLen∧Hid (Mo w (B5 b (o+j*5) (.string x.name) (.int .i64 x.params) (.int .i64 x.locals) (.slice px nx cx) (.slice py ny cy)::RI (.slice px nx cx) x.code::RN (.slice py ny cy) x.names::os) W):=by
 obtain⟨b,o,x1,y1,hp,hb,hc,_,h1,h2⟩:=SlMm.get (h.rd i hi) hx
 have h1':=h1
 have h2':=h2
 obtain⟨px,cx,rfl,_⟩:=h1'.form
 obtain⟨py,cy,e2,hl2,_⟩:=h2'
 subst e2
 exact⟨b,o,px,_,cx,py,_,cy,hp,hb,rfl,rfl,h1.len,hl2,zh (Mo.add (Mo.add (Mo.add h rn_mn h2) ri_mn h1) mnB5 hc)⟩
end
theorem cells8 {W:World} {b:Nat} {t:TypeId} {v0 v1 v2 v3 v4 v5 v6 v7:Value} (h:W.heap[b]? =some (.cells #[v0,v1,v2,v3,v4,v5,v6,v7] t (0,0))):b<W.heap.size∧W.cell? ⟨b,0,none⟩=some v0∧W.frozen? ⟨b,0,none⟩=false∧W.cell? ⟨b,1,none⟩=some v1∧W.frozen? ⟨b,1,none⟩=false∧W.cell? ⟨b,2,none⟩=some v2∧W.frozen? ⟨b,2,none⟩=false∧W.cell? ⟨b,3,none⟩=some v3∧W.frozen? ⟨b,3,none⟩=false∧W.cell? ⟨b,4,none⟩=some v4∧W.frozen? ⟨b,4,none⟩=false∧W.cell? ⟨b,5,none⟩=some v5∧W.frozen? ⟨b,5,none⟩=false∧W.cell? ⟨b,6,none⟩=some v6∧W.frozen? ⟨b,6,none⟩=false∧W.cell? ⟨b,7,none⟩=some v7∧W.frozen? ⟨b,7,none⟩=false:=⟨lt_of_block h,zB h (j:=0) rfl,zI h 0,zB h (j:=1) rfl,zI h 1,zB h (j:=2) rfl,zI h 2,zB h (j:=3) rfl,zI h 3,zB h (j:=4) rfl,zI h 4,zB h (j:=5) rfl,zI h 5,zB h (j:=6) rfl,zI h 6,zB h (j:=7) rfl,zI h 7⟩
theorem Mz.setRowE {B0 V:Nat} {w W:World} {o0 ow:List Nat} {Q:World→Prop} {bs:List Bk} {os:List (World→Prop)} (h:Mz B0 V w o0 Q ow bs os W) (i:Nat) {X:Nat} {cs:Array Value} {t:TypeId} (hi:bs[i]? =some (X,cs,t)) (cs':Array Value):
 ∃W',Hid (W'=W.setRow X cs')∧Hid (Mz B0 V w o0 Q ow (bs.set i (X,cs',t)) os W'):=
 ⟨_,zh rfl,zh (h.set i hi ⟨rfl,rfl,rfl,Nat.le_of_eq (setRow_size ..).symm,fun b _ hn=>setRow_other _ _ _ _ (fun e=>hn (by rw [e]))⟩ (setRow_heap _ _ _ _ _ _ (h.b i hi)))⟩
end Cw
end Go.Proofs.YtcnmfcgmnkncaaaGreatDoor
namespace Go.Proofs.YtcnmfcgmnkncaaaGreatDoor
namespace Cw
open Go.RowKit Go.Maps Pw
set_option maxRecDepth 100000
def opCells:Array Value:= #[.string ⟨#[112,117,115,104]⟩,.int .i64 2305843009213693951,.int .i64 0,.int .i64 (-2305843009213693952),.int .i64 0,.int .i64 1,.bool false,.func (.func 108) #[] #[],.string ⟨#[110,105,108]⟩,.int .i64 0,.int .i64 0,.int .i64 0,.int .i64 0,.int .i64 1,.bool false,.nilFunc,.string ⟨#[116,104,105,115]⟩,.int .i64 0,.int .i64 0,.int .i64 0,.int .i64 0,.int .i64 1,.bool false,.nilFunc,.string ⟨#[108,111,97,100]⟩,.int .i64 29,.int .i64 0,.int .i64 0,.int .i64 0,.int .i64 1,.bool false,.func (.func 108) #[] #[],.string ⟨#[115,116,111,114,101]⟩,.int .i64 29,.int .i64 0,.int .i64 0,.int .i64 1,.int .i64 0,.bool false,.func (.func 108) #[] #[],.string ⟨#[112,111,112]⟩,.int .i64 0,.int .i64 0,.int .i64 0,.int .i64 1,.int .i64 0,.bool false,.nilFunc,.string ⟨#[102,105,101,108,100]⟩,.int .i64 1023,.int .i64 0,.int .i64 0,.int .i64 1,.int .i64 1,.bool false,.func (.func 109) #[] #[],.string ⟨#[111,119,110]⟩,.int .i64 29,.int .i64 0,.int .i64 0,.int .i64 0,.int .i64 1,.bool false,.func (.func 108) #[] #[],.string ⟨#[115,101,116,102,105,101,108,100]⟩,.int .i64 1023,.int .i64 0,.int .i64 0,.int .i64 2,.int .i64 0,.bool false,.func (.func 109) #[] #[],.string ⟨#[115,101,116,111,119,110]⟩,.int .i64 29,.int .i64 0,.int .i64 0,.int .i64 1,.int .i64 0,.bool false,.func (.func 108) #[] #[],.string ⟨#[110,101,119]⟩,.int .i64 60,.int .i64 30,.int .i64 1,.int .i64 0,.int .i64 1,.bool true,.func (.func 110) #[] #[],.string ⟨#[110,101,119,97,116]⟩,.int .i64 60,.int .i64 30,.int .i64 1,.int .i64 1,.int .i64 1,.bool true,.func (.func 110) #[] #[],.string ⟨#[119,101,97,107]⟩,.int .i64 0,.int .i64 0,.int .i64 0,.int .i64 1,.int .i64 1,.bool false,.nilFunc,.string ⟨#[103,101,116]⟩,.int .i64 0,.int .i64 0,.int .i64 0,.int .i64 1,.int .i64 1,.bool false,.nilFunc,.string ⟨#[110,101,103]⟩,.int .i64 0,.int .i64 0,.int .i64 0,.int .i64 1,.int .i64 1,.bool false,.nilFunc,.string ⟨#[110,111,116]⟩,.int .i64 0,.int .i64 0,.int .i64 0,.int .i64 1,.int .i64 1,.bool false,.nilFunc,.string ⟨#[98,105,110,97,114,121]⟩,.int .i64 10,.int .i64 0,.int .i64 0,.int .i64 2,.int .i64 1,.bool false,.func (.func 111) #[] #[],.string ⟨#[116,114,117,116,104]⟩,.int .i64 0,.int .i64 0,.int .i64 0,.int .i64 1,.int .i64 1,.bool false,.nilFunc,.string ⟨#[106,117,109,112]⟩,.int .i64 4000,.int .i64 0,.int .i64 0,.int .i64 0,.int .i64 0,.bool false,.func (.func 108) #[] #[],.string ⟨#[106,117,109,112,102,97,108,115,101]⟩,.int .i64 4000,.int .i64 0,.int .i64 0,.int .i64 1,.int .i64 0,.bool false,.func (.func 108) #[] #[],.string ⟨#[106,117,109,112,116,114,117,101]⟩,.int .i64 4000,.int .i64 0,.int .i64 0,.int .i64 1,.int .i64 0,.bool false,.func (.func 108) #[] #[],.string ⟨#[115,101,110,100]⟩,.int .i64 1023,.int .i64 8,.int .i64 0,.int .i64 1,.int .i64 0,.bool true,.func (.func 112) #[] #[],.string ⟨#[112,114,105,110,116]⟩,.int .i64 0,.int .i64 0,.int .i64 0,.int .i64 1,.int .i64 0,.bool false,.nilFunc,.string ⟨#[109,111,118,101]⟩,.int .i64 0,.int .i64 0,.int .i64 0,.int .i64 2,.int .i64 0,.bool false,.nilFunc,.string ⟨#[119,97,116,99,104]⟩,.int .i64 1023,.int .i64 0,.int .i64 0,.int .i64 2,.int .i64 0,.bool false,.func (.func 109) #[] #[],.string ⟨#[114,101,116,117,114,110]⟩,.int .i64 0,.int .i64 0,.int .i64 0,.int .i64 0,.int .i64 0,.bool false,.nilFunc]
theorem zC2:opCells.size=208:=by kernel_rfl
theorem zLF:opCells.all (·.oneCell')=true:=by kernel_rfl
def opZero:Array Value:= #[.string ⟨#[]⟩,.int .i64 0,.int .i64 0,.int .i64 0,.int .i64 0,.int .i64 0,.bool false,.nilFunc,.string ⟨#[]⟩,.int .i64 0,.int .i64 0,.int .i64 0,.int .i64 0,.int .i64 0,.bool false,.nilFunc,.string ⟨#[]⟩,.int .i64 0,.int .i64 0,.int .i64 0,.int .i64 0,.int .i64 0,.bool false,.nilFunc,.string ⟨#[]⟩,.int .i64 0,.int .i64 0,.int .i64 0,.int .i64 0,.int .i64 0,.bool false,.nilFunc,.string ⟨#[]⟩,.int .i64 0,.int .i64 0,.int .i64 0,.int .i64 0,.int .i64 0,.bool false,.nilFunc,.string ⟨#[]⟩,.int .i64 0,.int .i64 0,.int .i64 0,.int .i64 0,.int .i64 0,.bool false,.nilFunc,.string ⟨#[]⟩,.int .i64 0,.int .i64 0,.int .i64 0,.int .i64 0,.int .i64 0,.bool false,.nilFunc,.string ⟨#[]⟩,.int .i64 0,.int .i64 0,.int .i64 0,.int .i64 0,.int .i64 0,.bool false,.nilFunc,.string ⟨#[]⟩,.int .i64 0,.int .i64 0,.int .i64 0,.int .i64 0,.int .i64 0,.bool false,.nilFunc,.string ⟨#[]⟩,.int .i64 0,.int .i64 0,.int .i64 0,.int .i64 0,.int .i64 0,.bool false,.nilFunc,.string ⟨#[]⟩,.int .i64 0,.int .i64 0,.int .i64 0,.int .i64 0,.int .i64 0,.bool false,.nilFunc,.string ⟨#[]⟩,.int .i64 0,.int .i64 0,.int .i64 0,.int .i64 0,.int .i64 0,.bool false,.nilFunc,.string ⟨#[]⟩,.int .i64 0,.int .i64 0,.int .i64 0,.int .i64 0,.int .i64 0,.bool false,.nilFunc,.string ⟨#[]⟩,.int .i64 0,.int .i64 0,.int .i64 0,.int .i64 0,.int .i64 0,.bool false,.nilFunc,.string ⟨#[]⟩,.int .i64 0,.int .i64 0,.int .i64 0,.int .i64 0,.int .i64 0,.bool false,.nilFunc,.string ⟨#[]⟩,.int .i64 0,.int .i64 0,.int .i64 0,.int .i64 0,.int .i64 0,.bool false,.nilFunc,.string ⟨#[]⟩,.int .i64 0,.int .i64 0,.int .i64 0,.int .i64 0,.int .i64 0,.bool false,.nilFunc,.string ⟨#[]⟩,.int .i64 0,.int .i64 0,.int .i64 0,.int .i64 0,.int .i64 0,.bool false,.nilFunc,.string ⟨#[]⟩,.int .i64 0,.int .i64 0,.int .i64 0,.int .i64 0,.int .i64 0,.bool false,.nilFunc,.string ⟨#[]⟩,.int .i64 0,.int .i64 0,.int .i64 0,.int .i64 0,.int .i64 0,.bool false,.nilFunc,.string ⟨#[]⟩,.int .i64 0,.int .i64 0,.int .i64 0,.int .i64 0,.int .i64 0,.bool false,.nilFunc,.string ⟨#[]⟩,.int .i64 0,.int .i64 0,.int .i64 0,.int .i64 0,.int .i64 0,.bool false,.nilFunc,.string ⟨#[]⟩,.int .i64 0,.int .i64 0,.int .i64 0,.int .i64 0,.int .i64 0,.bool false,.nilFunc,.string ⟨#[]⟩,.int .i64 0,.int .i64 0,.int .i64 0,.int .i64 0,.int .i64 0,.bool false,.nilFunc,.string ⟨#[]⟩,.int .i64 0,.int .i64 0,.int .i64 0,.int .i64 0,.int .i64 0,.bool false,.nilFunc,.string ⟨#[]⟩,.int .i64 0,.int .i64 0,.int .i64 0,.int .i64 0,.int .i64 0,.bool false,.nilFunc]
theorem zE {P:Program} {ops:Array Oper} {rest:List Oper} {o:Oper} {a:Act} {w:World} {Q:Exit→Act→World→Prop} (hg:o.guard=none) (t:TypeId) (parts:Array (Nat × Operand)) (ho:o.op= .build t parts) (row:Array Value)
 (hf:P.built t (parts.map fun (i,x)=>(i,a.eval x)).toList=some row) (h:wpList P ops Q rest (a.put o.dst (.agg row)) w):wpList P ops Q (o::rest) a w:=
 wpList_build hg t parts ho (by rw [hf];rfl) (by rw [hf];exact h)
theorem zTU:(Tryz.prog.info? 131).map (fun i=>(i.zero,i.size))=some (some (.agg opZero),208):=by kernel_rfl
theorem zLE:opZero.size=208:=by kernel_rfl
set_option maxHeartbeats 4000000 in
theorem zAN (w:World):Calls Tryz.prog 74 #[] w fun e w'=>e= .returned (.agg opCells)∧Below w.heap.size w w':=by
 have h1:=zTU
 have h2:=zLE
 generalize opZero=zs at h1 h2
 obtain⟨hz,hs⟩:=zero_of_info h1
 clear h1
 go_enter Tryz.func74,Tryz.ntmps74
 go_upto_region 1 with fail
 refine wp_region_lit ?_
 refine zE rfl _ _ rfl #[.string ⟨#[112,117,115,104]⟩,.int .i64 2305843009213693951,.int .i64 0,.int .i64 (-2305843009213693952),.int .i64 0,.int .i64 1,.bool false,.func (.func 108) #[] #[]] (by kernel_rfl) ?_
 simp only [Act.put,q0,q1,q2]
 refine zE rfl _ _ rfl #[.string ⟨#[110,105,108]⟩,.int .i64 0,.int .i64 0,.int .i64 0,.int .i64 0,.int .i64 1,.bool false,.nilFunc] (by kernel_rfl) ?_
 simp only [Act.put,q0,q1,q2]
 refine zE rfl _ _ rfl #[.string ⟨#[116,104,105,115]⟩,.int .i64 0,.int .i64 0,.int .i64 0,.int .i64 0,.int .i64 1,.bool false,.nilFunc] (by kernel_rfl) ?_
 simp only [Act.put,q0,q1,q2]
 refine zE rfl _ _ rfl #[.string ⟨#[108,111,97,100]⟩,.int .i64 29,.int .i64 0,.int .i64 0,.int .i64 0,.int .i64 1,.bool false,.func (.func 108) #[] #[]] (by kernel_rfl) ?_
 simp only [Act.put,q0,q1,q2]
 refine zE rfl _ _ rfl #[.string ⟨#[115,116,111,114,101]⟩,.int .i64 29,.int .i64 0,.int .i64 0,.int .i64 1,.int .i64 0,.bool false,.func (.func 108) #[] #[]] (by kernel_rfl) ?_
 simp only [Act.put,q0,q1,q2]
 refine zE rfl _ _ rfl #[.string ⟨#[112,111,112]⟩,.int .i64 0,.int .i64 0,.int .i64 0,.int .i64 1,.int .i64 0,.bool false,.nilFunc] (by kernel_rfl) ?_
 simp only [Act.put,q0,q1,q2]
 refine zE rfl _ _ rfl #[.string ⟨#[102,105,101,108,100]⟩,.int .i64 1023,.int .i64 0,.int .i64 0,.int .i64 1,.int .i64 1,.bool false,.func (.func 109) #[] #[]] (by kernel_rfl) ?_
 simp only [Act.put,q0,q1,q2]
 refine zE rfl _ _ rfl #[.string ⟨#[111,119,110]⟩,.int .i64 29,.int .i64 0,.int .i64 0,.int .i64 0,.int .i64 1,.bool false,.func (.func 108) #[] #[]] (by kernel_rfl) ?_
 simp only [Act.put,q0,q1,q2]
 refine zE rfl _ _ rfl #[.string ⟨#[115,101,116,102,105,101,108,100]⟩,.int .i64 1023,.int .i64 0,.int .i64 0,.int .i64 2,.int .i64 0,.bool false,.func (.func 109) #[] #[]] (by kernel_rfl) ?_
 simp only [Act.put,q0,q1,q2]
 refine zE rfl _ _ rfl #[.string ⟨#[115,101,116,111,119,110]⟩,.int .i64 29,.int .i64 0,.int .i64 0,.int .i64 1,.int .i64 0,.bool false,.func (.func 108) #[] #[]] (by kernel_rfl) ?_
 simp only [Act.put,q0,q1,q2]
 refine zE rfl _ _ rfl #[.string ⟨#[110,101,119]⟩,.int .i64 60,.int .i64 30,.int .i64 1,.int .i64 0,.int .i64 1,.bool true,.func (.func 110) #[] #[]] (by kernel_rfl) ?_
 simp only [Act.put,q0,q1,q2]
 refine zE rfl _ _ rfl #[.string ⟨#[110,101,119,97,116]⟩,.int .i64 60,.int .i64 30,.int .i64 1,.int .i64 1,.int .i64 1,.bool true,.func (.func 110) #[] #[]] (by kernel_rfl) ?_
 simp only [Act.put,q0,q1,q2]
 refine zE rfl _ _ rfl #[.string ⟨#[119,101,97,107]⟩,.int .i64 0,.int .i64 0,.int .i64 0,.int .i64 1,.int .i64 1,.bool false,.nilFunc] (by kernel_rfl) ?_
 simp only [Act.put,q0,q1,q2]
 refine zE rfl _ _ rfl #[.string ⟨#[103,101,116]⟩,.int .i64 0,.int .i64 0,.int .i64 0,.int .i64 1,.int .i64 1,.bool false,.nilFunc] (by kernel_rfl) ?_
 simp only [Act.put,q0,q1,q2]
 refine zE rfl _ _ rfl #[.string ⟨#[110,101,103]⟩,.int .i64 0,.int .i64 0,.int .i64 0,.int .i64 1,.int .i64 1,.bool false,.nilFunc] (by kernel_rfl) ?_
 simp only [Act.put,q0,q1,q2]
 refine zE rfl _ _ rfl #[.string ⟨#[110,111,116]⟩,.int .i64 0,.int .i64 0,.int .i64 0,.int .i64 1,.int .i64 1,.bool false,.nilFunc] (by kernel_rfl) ?_
 simp only [Act.put,q0,q1,q2]
 refine zE rfl _ _ rfl #[.string ⟨#[98,105,110,97,114,121]⟩,.int .i64 10,.int .i64 0,.int .i64 0,.int .i64 2,.int .i64 1,.bool false,.func (.func 111) #[] #[]] (by kernel_rfl) ?_
 simp only [Act.put,q0,q1,q2]
 refine zE rfl _ _ rfl #[.string ⟨#[116,114,117,116,104]⟩,.int .i64 0,.int .i64 0,.int .i64 0,.int .i64 1,.int .i64 1,.bool false,.nilFunc] (by kernel_rfl) ?_
 simp only [Act.put,q0,q1,q2]
 refine zE rfl _ _ rfl #[.string ⟨#[106,117,109,112]⟩,.int .i64 4000,.int .i64 0,.int .i64 0,.int .i64 0,.int .i64 0,.bool false,.func (.func 108) #[] #[]] (by kernel_rfl) ?_
 simp only [Act.put,q0,q1,q2]
 refine zE rfl _ _ rfl #[.string ⟨#[106,117,109,112,102,97,108,115,101]⟩,.int .i64 4000,.int .i64 0,.int .i64 0,.int .i64 1,.int .i64 0,.bool false,.func (.func 108) #[] #[]] (by kernel_rfl) ?_
 simp only [Act.put,q0,q1,q2]
 refine zE rfl _ _ rfl #[.string ⟨#[106,117,109,112,116,114,117,101]⟩,.int .i64 4000,.int .i64 0,.int .i64 0,.int .i64 1,.int .i64 0,.bool false,.func (.func 108) #[] #[]] (by kernel_rfl) ?_
 simp only [Act.put,q0,q1,q2]
 refine zE rfl _ _ rfl #[.string ⟨#[115,101,110,100]⟩,.int .i64 1023,.int .i64 8,.int .i64 0,.int .i64 1,.int .i64 0,.bool true,.func (.func 112) #[] #[]] (by kernel_rfl) ?_
 simp only [Act.put,q0,q1,q2]
 refine zE rfl _ _ rfl #[.string ⟨#[112,114,105,110,116]⟩,.int .i64 0,.int .i64 0,.int .i64 0,.int .i64 1,.int .i64 0,.bool false,.nilFunc] (by kernel_rfl) ?_
 simp only [Act.put,q0,q1,q2]
 refine zE rfl _ _ rfl #[.string ⟨#[109,111,118,101]⟩,.int .i64 0,.int .i64 0,.int .i64 0,.int .i64 2,.int .i64 0,.bool false,.nilFunc] (by kernel_rfl) ?_
 simp only [Act.put,q0,q1,q2]
 refine zE rfl _ _ rfl #[.string ⟨#[119,97,116,99,104]⟩,.int .i64 1023,.int .i64 0,.int .i64 0,.int .i64 2,.int .i64 0,.bool false,.func (.func 109) #[] #[]] (by kernel_rfl) ?_
 simp only [Act.put,q0,q1,q2]
 refine zE rfl _ _ rfl #[.string ⟨#[114,101,116,117,114,110]⟩,.int .i64 0,.int .i64 0,.int .i64 0,.int .i64 0,.int .i64 0,.bool false,.nilFunc] (by kernel_rfl) ?_
 simp only [Act.put,q0,q1,q2]
 refine zE rfl _ _ rfl opCells (by kernel_rfl) ?_
 refine wpList_plain rfl fun K hK=>wp_store_row _ _ _ rfl w.heap.size opCells (by kernel_rfl) (by kernel_rfl) 131 zs (heap_alloc_last w _) (by rw [zC2];exact hs) (by rw [zC2];exact h2) zLF (hK _ _ ?_)
 rw [World.setRow_alloc_new]
 refine wpList_nil ?_
 have hb:=zD w (.cells opCells 131)
 have hl:=heap_alloc_last w (.cells opCells 131)
 refine(by assumption:∀(a:Act) (w:World),_→_) _ _ ?_
 generalize hA:Act.put (Act.put _ _ _) _ _=A at*
 go_wp2_with fail
 rw [←hA]
 exact bodyPost_ret_by (v:= .agg opCells) (results_cell_row Tryz.results74 _ _ w.heap.size 131 opCells (0,0) _ (by kernel_rfl) hl Tryz.underlying131 rfl (by rw [zC2];exact hs)) rfl ⟨rfl,hb⟩
end Cw
end Go.Proofs.YtcnmfcgmnkncaaaGreatDoor
namespace Go.Proofs.YtcnmfcgmnkncaaaGreatDoor
namespace Co
open Tr
def pops (o b:Int):Int:=
 if o=4∨o=5∨o=6∨o=9∨o=12∨o=13∨o=14∨o=15∨o=17∨o=19∨o=20∨o=22 then 1
 else if o=8∨o=16∨o=23∨o=24 then 2
 else if o=10 then b else if o=11∨o=21 then b+1 else 0
def pushes (o:Int):Int:=if o=0∨o=1∨o=2∨o=3∨o=6∨o=7∨o=10∨o=11∨o=12∨o=13∨o=14∨o=15∨o=16∨o=17 then 1 else 0
theorem zPI (o:Int):0≤pushes o∧pushes o≤1:=by unfold pushes;split<;>omega
abbrev Jp (o:Int):Prop:=o=18∨o=19∨o=20
structure Fl (c:List Ins) (D:List Int) (p:Nat→Prop) (m:Int):Prop where
 len:D.length=c.length+1
 nn:∀(i:Nat) (d:Int),D[i]? =some d→0≤d∧d≤m
 pop:∀(i:Nat) (o a b d:Int),c[i]? =some (o,a,b)→D[i]? =some d→pops o b≤d
 fall:∀(i:Nat) (o a b d:Int),c[i]? =some (o,a,b)→D[i]? =some d→o≠18→o≠25→D[i+1]? =some (d -pops o b+pushes o)
 jump:∀(i:Nat) (o a b d:Int),c[i]? =some (o,a,b)→D[i]? =some d→Jp o→¬p i→0≤a∧D[a.toNat]? =some (d -pops o b+pushes o)
theorem zE2 {α:Type} {l:List α} {x y:α} {i:Nat} (h:(l++ [x])[i]? =some y):l[i]? =some y∨(i=l.length∧y=x):=by
 rcases Nat.lt_or_ge i l.length with hl|hl
 ·rw [List.getElem?_append_left hl] at h
  exact .inl h
 ·rw [List.getElem?_append_right hl] at h
  have h2:i -l.length=0:=by
   rcases Nat.eq_zero_or_pos (i -l.length) with e|e
   ·exact e
   ·rw [List.getElem?_eq_none (by rw [List.length_singleton];omega)] at h
    cases h
  rw [h2] at h
  exact .inr ⟨by omega,by injection h with h;exact h.symm⟩
theorem zGX {α:Type} {l:List α} {x:α} {i:Nat} (h:l[i]? =some x):i<l.length:=(List.getElem?_eq_some_iff.1 h).1
theorem zAI {α:Type} {l t:List α} {x:α} {i:Nat} (h:l[i]? =some x):(l++t)[i]? =some x:=by
 rw [List.getElem?_append_left (zGX h)]
 exact h
theorem zGY {α:Type} (l:List α) (x:α) {n:Nat} (h:n=l.length):(l++ [x])[n]? =some x:=by
 rw [List.getElem?_append_right (by omega),h,Nat.sub_self]
 rfl
section
variable {c:List Ins} {D:List Int} {p p':Nat→Prop} {m:Int}
theorem Fl.add (h:Fl c D p m) {d d' m' o a b:Int} (hd:D[c.length]? =some d) (hp:pops o b≤d) (h0:0≤d') (hm:d'≤m') (hmm:m≤m') (hf:o≠18→o≠25→d'=d -pops o b+pushes o) (hj:Jp o→¬p' c.length→0≤a∧(D++ [d'])[a.toNat]? =some (d -pops o b+pushes o)) (hpp:∀i,i<c.length→p i→p' i):Fl (c++ [(o,a,b)]) (D++ [d']) p' m':=by
 have hl:=h.len
 refine⟨by rw [List.length_append,List.length_append,hl];rfl,fun i e he=>?_,fun i o1 a1 b1 e hc he=>?_,fun i o1 a1 b1 e hc he h18 h25=>?_,fun i o1 a1 b1 e hc he hJ hnp=>?_⟩
 ·rcases zE2 he with he|⟨_,rfl⟩
  ·have:=h.nn i e he
   omega
  ·exact⟨h0,hm⟩
 all_goals have hlt:=zGX hc
 all_goals rw [List.length_append,List.length_singleton] at hlt
 all_goals rw [List.getElem?_append_left (by omega)] at he
 ·rcases zE2 hc with hc|⟨rfl,e1⟩
  ·exact h.pop i _ _ _ _ hc he
  ·cases e1
   rw [hd] at he
   cases he
   exact hp
 ·rcases zE2 hc with hc|⟨rfl,e1⟩
  ·exact zAI (h.fall i _ _ _ _ hc he h18 h25)
  ·cases e1
   rw [hd] at he
   cases he
   rw [←hf h18 h25]
   exact zGY _ _ hl.symm
 ·rcases zE2 hc with hc|⟨rfl,e1⟩
  ·have h1:=h.jump i _ _ _ _ hc he hJ (fun hq=>hnp (hpp i (zGX hc) hq))
   exact⟨h1.1,zAI h1.2⟩
  ·cases e1
   rw [hd] at he
   cases he
   exact hj hJ hnp
theorem zC9 {i j:Nat} {n o a b:Int} (h:(c.modify i fun x=>(x.1,n,x.2.2))[j]? =some (o,a,b)):∃a2,c[j]? =some (o,a2,b)∧((j=i∧a=n)∨(j≠i∧a2=a)):=by
 rw [List.getElem?_modify] at h
 cases hx:c[j]? with
 |none=>rw [hx] at h;cases h
 |some x=>
  rw [hx] at h
  by_cases e:i=j
  ·subst e
   have h1:some (if i=i then(x.1,n,x.2.2) else x)=some (o,a,b):=h
   rw [if_pos rfl] at h1
   cases h1
   exact⟨x.2.1,rfl,.inl ⟨rfl,rfl⟩⟩
  ·have h1:some (if i=j then(x.1,n,x.2.2) else x)=some (o,a,b):=h
   rw [if_neg e] at h1
   cases h1
   exact⟨a,rfl,.inr ⟨fun e2=>e e2.symm,rfl⟩⟩
theorem Fl.patch (h:Fl c D p m) {i:Nat} {o a b d:Int} (hc:c[i]? =some (o,a,b)) (hD:D[i]? =some d) (ht:D[c.length]? =some (d -pops o b+pushes o)) (hp:∀q,p q→q=i∨p' q):Fl (c.modify i fun x=>(x.1,(c.length:Int),x.2.2)) D p' m:=by
 refine⟨by rw [List.length_modify];exact h.len,h.nn,fun j o1 a1 b1 e hj he=>?_,fun j o1 a1 b1 e hj he h18 h25=>?_,fun j o1 a1 b1 e hj he hJ hnp=>?_⟩
 ·obtain⟨a2,h1,_⟩:=zC9 hj
  exact h.pop j _ _ _ _ h1 he
 ·obtain⟨a2,h1,_⟩:=zC9 hj
  exact h.fall j _ _ _ _ h1 he h18 h25
 ·obtain⟨a2,h1,h2⟩:=zC9 hj
  rcases h2 with ⟨rfl,rfl⟩|⟨h2,rfl⟩
  ·rw [hc] at h1
   cases h1
   rw [hD] at he
   cases he
   exact⟨by omega,by rw [Int.toNat_natCast];exact ht⟩
  ·exact h.jump j _ _ _ _ h1 he hJ (fun hq=>(hp j hq).elim h2 hnp)
end
inductive Fin (cs:List C) (fs:List ByteArray) (nn ln cl:Nat) (lg:Bool):Ins→Prop
 |push (n:Int) (h: -2305843009213693952≤n) (h2:n≤2305843009213693951):Fin cs fs nn ln cl lg (0,n,0)
 |flat (o:Int) (h:o=1∨o=2∨o=12∨o=13∨o=14∨o=15∨o=17∨o=22∨o=23∨o=25):Fin cs fs nn ln cl lg (o,0,0)
 |loc (o:Int) (n:Nat) (h:o=3∨o=4) (h2:n<ln):Fin cs fs nn ln cl lg (o,(n:Int),0)
 |nam (o:Int) (n:Nat) (h:o=6∨o=8∨o=24) (h2:n<nn):Fin cs fs nn ln cl lg (o,(n:Int),0)
 |snd (n:Nat) (b:Int) (h2:n<nn) (h:0≤b) (h3:lg=false→b≤8):Fin cs fs nn ln cl lg (21,(n:Int),b)
 |own (o:Int) (n:Nat) (h:o=7∨o=9) (h2:n<fs.length):Fin cs fs nn ln cl lg (o,(n:Int),0)
 |new (o:Int) (i:Nat) (c:C) (b:Int) (h:o=10∨o=11) (h2:cs[i]? =some c) (h3:0≤b) (h4:b≤c.fields.length):Fin cs fs nn ln cl lg (o,(i:Int)+1,b)
 |bin (o:Int) (h:0≤o) (h2:o≤10):Fin cs fs nn ln cl lg (16,o,0)
 |jmp (o:Int) (n:Nat) (h:Jp o) (h2:n≤cl):Fin cs fs nn ln cl lg (o,(n:Int),0)
section
variable {cs:List C} {fs:List ByteArray}
theorem Fin.mono {nn ln cl nn' ln' cl':Nat} {lg lg':Bool} {x:Ins} (h:Fin cs fs nn ln cl lg x) (h1:nn≤nn') (h2:ln≤ln') (h3:cl≤cl') (h4:lg'=false→lg=false):Fin cs fs nn' ln' cl' lg' x:=by
 cases h with
 |push n a b=>exact .push n a b
 |flat o a=>exact .flat o a
 |loc o n a b=>exact .loc o n a (by omega)
 |nam o n a b=>exact .nam o n a (by omega)
 |snd n b a d e=>exact .snd n b (by omega) d (fun q=>e (h4 q))
 |own o n a b=>exact .own o n a b
 |new o i c b h a d e=>exact .new o i c b h a d e
 |bin o a b=>exact .bin o a b
 |jmp o n a b=>exact .jmp o n a (by omega)
structure Sd (cs:List C) (fs:List ByteArray) (p:Nat→Prop) (g:G) (D:List Int):Prop where
 fl:Fl g.code D p g.most
 top:D[g.code.length]? =some g.depth
 ins:∀(i:Nat) (x:Ins),g.code[i]? =some x→Fin cs fs g.names.length g.locals g.code.length g.large x
 nums:∀v∈g.vars,v.2<g.locals
variable {p p':Nat→Prop} {g h:G} {D:List Int}
theorem Sd.nn (s:Sd cs fs p g D):0≤g.depth∧g.depth≤g.most:=s.fl.nn _ _ s.top
theorem zGT {c:List Ins} {x:Ins} {P:Ins→Prop} (h:∀(i:Nat) (y:Ins),c[i]? =some y→P y) (hx:P x):∀(i:Nat) (y:Ins),(c++ [x])[i]? =some y→P y:=fun i y hy=>by
 rcases zE2 hy with hy|⟨_,rfl⟩
 ·exact h i y hy
 ·exact hx
theorem Sd.em (s:Sd cs fs p g D) {o a b P Q:Int} (hP:pops o b=P) (hQ:pushes o=Q) (hj:¬Jp o) (hd:P≤g.depth) (hf:Fin cs fs g.names.length g.locals (g.code.length+1) g.large (o,a,b)):Sd cs fs p (emit g o a b P Q) (D++ [g.depth -P+Q]):=by
 have h1:=s.nn
 have h2:=zPI o
 have hm1:g.depth -P+Q≤max g.most (g.depth -P+Q):=by omega
 have hm2:g.most≤max g.most (g.depth -P+Q):=by omega
 refine⟨s.fl.add s.top (by omega) (by omega) hm1 hm2 (fun _ _=>by rw [hP,hQ]) (fun hJ=>absurd hJ hj) (fun i _ hi=>hi),zGY _ _ (by rw [zO,s.fl.len]),?_,s.nums⟩
 rw [zO]
 exact zGT (fun i x hx=>(s.ins i x hx).mono (Nat.le_refl _) (Nat.le_refl _) (Nat.le_succ _) id) hf
theorem Sd.jp (s:Sd cs fs p g D) {o P:Int} (hP:pops o 0=P) (hQ:pushes o=0) (ho:Jp o) (hd:P≤g.depth) (hp:∀i,p i→p' i) (hn:p' g.code.length):Sd cs fs p' (emit g o 0 0 P 0) (D++ [g.depth -P+0]):=by
 have h1:=s.nn
 have hm1:g.depth -P+0≤max g.most (g.depth -P+0):=by omega
 have hm2:g.most≤max g.most (g.depth -P+0):=by omega
 refine⟨s.fl.add s.top (by omega) (by omega) hm1 hm2 (fun _ _=>by rw [hP,hQ]) (fun _ hx=>absurd hn hx) (fun i _ hi=>hp i hi),zGY _ _ (by rw [zO,s.fl.len]),?_,s.nums⟩
 rw [zO]
 exact zGT (fun i x hx=>(s.ins i x hx).mono (Nat.le_refl _) (Nat.le_refl _) (Nat.le_succ _) id) (.jmp o 0 ho (Nat.zero_le _))
theorem Sd.jd (s:Sd cs fs p g D) (hd:1≤g.depth) (hp:∀i,p i→p' i) (hn:p' g.code.length):Sd cs fs p' { emit g 18 0 0 0 0 with depth:=(emit g 18 0 0 0 0).depth -1 } (D++ [g.depth -1]):=by
 have h1:=s.nn
 have hm1:g.depth -1≤max g.most (g.depth -0+0):=by omega
 have hm2:g.most≤max g.most (g.depth -0+0):=by omega
 refine⟨s.fl.add s.top (by show pops 18 0≤_;rw [show pops 18 0=0 from by decide];omega) (by omega) hm1 hm2 (fun hx=>absurd rfl hx) (fun _ hx=>absurd hn hx) (fun i _ hi=>hp i hi),?_,?_,s.nums⟩
 ·show(D++ [g.depth -1])[(emit g 18 0 0 0 0).code.length]? =some (g.depth -0+0 -1)
  rw [zO,zGY _ _ s.fl.len.symm]
  congr 1
  omega
 ·show ∀(i:Nat) (x:Ins),(g.code++ [(18,0,0)])[i]? =some x→Fin cs fs g.names.length g.locals (emit g 18 0 0 0 0).code.length g.large x
  rw [zO]
  exact zGT (fun i x hx=>(s.ins i x hx).mono (Nat.le_refl _) (Nat.le_refl _) (Nat.le_succ _) id) (.jmp 18 0 (.inl rfl) (Nat.zero_le _))
theorem Sd.back (s:Sd cs fs p g D) {n:Nat} (hn:D[n]? =some g.depth):Sd cs fs p (emit g 18 (n:Int) 0 0 0) (D++ [g.depth -0+0]):=by
 have h1:=s.nn
 have hm1:g.depth -0+0≤max g.most (g.depth -0+0):=by omega
 have hm2:g.most≤max g.most (g.depth -0+0):=by omega
 have h3:=zGX hn
 rw [s.fl.len] at h3
 refine⟨s.fl.add s.top (by show pops 18 0≤_;rw [show pops 18 0=0 from by decide];omega) (by omega) hm1 hm2 (fun hx=>absurd rfl hx) (fun _ _=>⟨by omega,?_⟩) (fun i _ hi=>hi),zGY _ _ (by rw [zO,s.fl.len]),?_,s.nums⟩
 ·rw [Int.toNat_natCast]
  refine(zAI hn).trans ?_
  rw [show pops 18 0=0 from by decide,show pushes 18=0 from by decide]
  congr 1
  omega
 ·rw [zO]
  exact zGT (fun i x hx=>(s.ins i x hx).mono (Nat.le_refl _) (Nat.le_refl _) (Nat.le_succ _) id) (.jmp 18 n (.inl rfl) (by omega))
theorem Sd.patch (s:Sd cs fs p g D) {i:Nat} {o a d:Int} (hc:g.code[i]? =some (o,a,0)) (hD:D[i]? =some d) (ho:Jp o) (ht:g.depth=d -pops o 0) (hp:∀q,p q→q=i∨p' q):Sd cs fs p' (patch g i) D:=by
 have hq:pushes o=0:=by rcases ho with rfl|rfl|rfl<;>decide
 refine⟨s.fl.patch hc hD (by rw [s.top,hq,ht];congr 1;omega) hp,by rw [zBC];exact s.top,fun j x hx=>?_,s.nums⟩
 rw [zBC]
 obtain⟨x1,x2,x3⟩:=x
 obtain⟨a2,h1,h2⟩:=zC9 hx
 rcases h2 with ⟨rfl,rfl⟩|⟨_,rfl⟩
 ·rw [hc] at h1
  cases h1
  exact .jmp _ _ ho (Nat.le_refl _)
 ·exact s.ins j _ h1
theorem Sd.shut (s:Sd cs fs p h D) (h0:∀v∈g.vars,v.2<g.locals) (hl:g.locals≤h.locals):Sd cs fs p (shut g h) D:=⟨s.fl,s.top,s.ins,fun v hv=>Nat.lt_of_lt_of_le (h0 v hv) hl⟩
theorem Sd.decl (s:Sd cs fs p g D) (nm:ByteArray):Sd cs fs p { g with vars:=g.vars++ [(nm,g.locals)],locals:=g.locals+1 } D:=by
 refine⟨s.fl,s.top,fun i x hx=>(s.ins i x hx).mono (Nat.le_refl _) (Nat.le_succ _) (Nat.le_refl _) id,fun v hv=>?_⟩
 rcases List.mem_append.1 hv with hv|hv
 ·exact Nat.lt_succ_of_lt (s.nums v hv)
 ·rw [List.mem_singleton.1 hv]
  exact Nat.lt_succ_self _
theorem Sd.lg (s:Sd cs fs p g D) (b:Bool):Sd cs fs p { g with large:=g.large||b } D:=
 ⟨s.fl,s.top,fun i x hx=>(s.ins i x hx).mono (Nat.le_refl _) (Nat.le_refl _) (Nat.le_refl _) (fun hq=>(Bool.or_eq_false_iff.1 hq).1),s.nums⟩
theorem Sd.name (s:Sd cs fs p g D) (nm:ByteArray):Sd cs fs p (name g nm).1 D∧(name g nm).2<(name g nm).1.names.length∧(name g nm).1.depth=g.depth∧(name g nm).1.vars=g.vars∧(name g nm).1.code=g.code:=by
 unfold Co.name
 split
 ·rename_i i hi
  exact⟨s,(List.findIdx?_eq_some_iff_getElem.1 hi).1,rfl,rfl,rfl⟩
 ·refine⟨⟨s.fl,s.top,fun i x hx=>(s.ins i x hx).mono ?_ (Nat.le_refl _) (Nat.le_refl _) id,s.nums⟩,?_,rfl,rfl,rfl⟩
  ·show _≤(g.names++ [nm]).length
   rw [List.length_append]
   omega
  ·show g.names.length<(g.names++ [nm]).length
   rw [List.length_append,List.length_singleton]
   omega
def Nx (cs:List C) (fs:List ByteArray) (p:Nat→Prop) (g h:G) (D:List Int) (k:Int):Prop:=∃D',Sd cs fs p h (D++D')∧h.depth=g.depth+k
theorem Sd.nx (s:Sd cs fs p g D):Nx cs fs p g g D 0:=⟨[],by rw [List.append_nil];exact s,by omega⟩
theorem Nx.em {k:Int} (n:Nx cs fs p g h D k) {o a b P Q:Int} (hP:pops o b=P) (hQ:pushes o=Q) (hj:¬Jp o) (hd:P≤g.depth+k) (hf:Fin cs fs h.names.length h.locals (h.code.length+1) h.large (o,a,b)):Nx cs fs p g (emit h o a b P Q) D (k -P+Q):=by
 obtain⟨D',s,hk⟩:=n
 exact⟨D'++ [h.depth -P+Q],by rw [←List.append_assoc];exact s.em hP hQ hj (by omega) hf,by show h.depth -P+Q=_;omega⟩
theorem Nx.trans {k k':Int} {h':G} (n:Nx cs fs p g h D k) (m:∀D,Sd cs fs p h D→Nx cs fs p h h' D k'):Nx cs fs p g h' D (k+k'):=by
 obtain⟨D',s,hk⟩:=n
 obtain⟨D2,s2,hk2⟩:=m _ s
 exact⟨D'++D2,by rw [←List.append_assoc];exact s2,by omega⟩
theorem Nx.cast {k k':Int} (n:Nx cs fs p g h D k) (e:k=k'):Nx cs fs p g h D k':=e▸n
end
end Co
end Go.Proofs.YtcnmfcgmnkncaaaGreatDoor
