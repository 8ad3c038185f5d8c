/-
  values; CompilerFoldsSafely, walked.
-/
import Derived.Test.YtcnmfcgmnkncaaaGreatDoorG29
namespace Go.Proofs.YtcnmfcgmnkncaaaGreatDoor
namespace Cw
open Go.RowKit Go.Maps Pw
theorem Mz.retAA {B0 V:Nat} {w W:World} {o0 ow:List Nat} {Q:World→Prop} {bs:List Bk} {os:List (World→Prop)} {R R2:Nat} {cs cs2:Array Value} {t:TypeId} {fn:Func} {q q2:Tmp} {A:Act} {Post:Ending→World→Prop} (h:Mz B0 V w o0 Q ow bs os W) (i j:Nat) (hi:bs[i]? =some (R,cs,t)) (hj:bs[j]? =some (R2,cs2,t)) (hr:fn.results= #[.cell q t,.cell q2 t]) (hq:A.tmps.getD q undef= .pointer (some ⟨R,0,none⟩)) (hq2:A.tmps.getD q2 undef= .pointer (some ⟨R2,0,none⟩)) (hd:A.defers= []) (hu:∃fs,Tryz.prog.underlying t=some (.struct fs)) (hz:(Tryz.prog.info? t).map (·.size)=some cs.size) (hz2:(Tryz.prog.info? t).map (·.size)=some cs2.size) (hp:Post (.returned (.tuple #[.agg cs,.agg cs2])) W):
 bodyPost Tryz.prog fn Post .ret A W:=by
 obtain⟨fs,hu⟩:=hu
 refine bodyPost_ret (v:= .tuple #[.agg cs,.agg cs2]) ?_ hd hp
 simp only [results,hr]
 have hq':A.tmps[q]?.getD undef= .pointer (some ⟨R,0,none⟩):=by simpa using hq
 have hq2':A.tmps[q2]?.getD undef= .pointer (some ⟨R2,0,none⟩):=by simpa using hq2
 simp [hq',hq2',asAddr,run_loadVar_row W R t t cs (0,0) _ (h.b i hi) hu rfl hz,run_loadVar_row W R2 t t cs2 (0,0) _ (h.b j hj) hu rfl hz2]
theorem sl_of {w W:World} {bs:List Bk} {os:List (World→Prop)} {E X Y:Nat} {e0 e1 e2 e3 e4 e5 x0 x1 y0 y1:Value} {tE tX tY:TypeId} (h:Mz 0 0 w [] (fun _=>True) [] bs os W) (i j k:Nat) (hE:bs[i]? =some (E,#[e0,e1,e2,e3,e4,e5],tE)) (hX:bs[j]? =some (X,#[x0,x1],tX)) (hY:bs[k]? =some (Y,#[y0,y1],tY)):
 W.cell? ⟨E,0,none⟩=some e0∧W.cell? ⟨E,1,none⟩=some e1∧W.cell? ⟨E,2,none⟩=some e2∧W.cell? ⟨E,3,none⟩=some e3∧W.cell? ⟨E,4,none⟩=some e4∧W.cell? ⟨E,5,none⟩=some e5∧W.cell? ⟨X,0,none⟩=some x0∧W.cell? ⟨X,1,none⟩=some x1∧W.cell? ⟨Y,0,none⟩=some y0∧W.cell? ⟨Y,1,none⟩=some y1:=
 ⟨cell_of_blkP (h.b i hE) (j:=0) rfl,cell_of_blkP (h.b i hE) (j:=1) rfl,cell_of_blkP (h.b i hE) (j:=2) rfl,cell_of_blkP (h.b i hE) (j:=3) rfl,cell_of_blkP (h.b i hE) (j:=4) rfl,cell_of_blkP (h.b i hE) (j:=5) rfl,cell_of_blkP (h.b j hX) (j:=0) rfl,cell_of_blkP (h.b j hX) (j:=1) rfl,cell_of_blkP (h.b k hY) (j:=0) rfl,cell_of_blkP (h.b k hY) (j:=1) rfl⟩
def vOf (a:Int):Co.Val:=if a= -9223372036854775808 then none else some (Co.wrap a)
set_option maxRecDepth 100000 in
set_option maxHeartbeats 16000000 in
theorem valuesL_any (a b:Int) (w:World):
 Calls Tryz.prog 21 #[.int .i64 a,.int .i64 b] w fun e w'=>e= .returned (.tuple #[vV (vOf a),vV (vOf b)])∧Below w.heap.size w w':=by
 by_cases ha:a= -9223372036854775808
 ·subst ha
  by_cases hb:b= -9223372036854775808
  ·subst hb
   have C0:=Lib.hid (My.start w)
   have KW1:Hid (∀w,Calls Tryz.prog 46 #[.int .i64 ((-9223372036854775808))] w fun e w'=>e= .returned (.int .i64 (Co.wrap ((-9223372036854775808))))∧w'=w):=Lib.hid (fun w=>wrapR_any _ w)
   obtain⟨Z1,hZ1⟩:∃q,Co.wrap ((-9223372036854775808))=q:=⟨_,rfl⟩
   rw [hZ1] at KW1
   have HZ1:=Lib.hid hZ1
   clear hZ1
   have KW2:Hid (∀w,Calls Tryz.prog 46 #[.int .i64 ((-9223372036854775808))] w fun e w'=>e= .returned (.int .i64 (Co.wrap ((-9223372036854775808))))∧w'=w):=Lib.hid (fun w=>wrapR_any _ w)
   obtain⟨Z2,hZ2⟩:∃q,Co.wrap ((-9223372036854775808))=q:=⟨_,rfl⟩
   rw [hZ2] at KW2
   have HZ2:=Lib.hid hZ2
   clear hZ2
   obtain⟨R1,w1,HX1,HW1,hx1,C1⟩:=C0.out.boxE #[.bool false,.int .i64 0] 43
   obtain⟨R2,w2,HX2,HW2,hx2,C2⟩:=C1.out.boxE #[.bool false,.int .i64 0] 43
   have HY2:Hid (R2=R1+1):=Lib.hid (by rw [HX2.out,HW1.out,HX1.out];simp)
   go_enter Tryz.func21,Tryz.ntmps21
   go_upto_region 1 with fail
   rw [←HX1.out,←HW1.out,←HY2.out,←HW2.out]
   clear HX1 HW1 C0 HY2 HX2 HW2 C1
   go_wp2_with fail
   refine(KW1.out _).mono ?_
   rintro e w' ⟨rfl,hww⟩
   rw [hww]
   clear hww w'
   go_wp2_with fail
   refine(KW2.out _).mono ?_
   rintro e w' ⟨rfl,hww⟩
   rw [hww]
   clear hww w'
   obtain⟨X,w3,HX3,HW3,hx3,C3⟩:=C2.out.boxE #[.bool true,.int .i64 Z1] 43
   obtain⟨Y,w4,HX4,HW4,hx4,C4⟩:=C3.out.boxE #[.bool true,.int .i64 Z2] 43
   have HY4:Hid (Y=X+1):=Lib.hid (by rw [HX4.out,HW3.out,HX3.out];simp)
   go_upto_region 2 with fail
   rw [←HX3.out,←HW3.out,←HY4.out,←HW4.out]
   clear HX3 HW3 C2 HY4 HX4 HW4 C3
   have q1:=cells2 (C4.out.b 1 rfl)
   obtain⟨w5,HW,C5⟩:=C4.out.set2 1 rfl (.bool false) (.int .i64 0)
   dsimp only [List.set] at C5
   go_upto_region 4 with fail
   rw [←HW.out]
   clear HW C4 q1
   have q0:=cells2 (C5.out.b 0 rfl)
   obtain⟨w6,HW,C6⟩:=C5.out.set2 0 rfl (.bool false) (.int .i64 0)
   dsimp only [List.set] at C6
   go_upto_region 6 with fail
   rw [←HW.out]
   clear HW C5 q0
   obtain⟨w7,HW,C7⟩:=C6.out.drewE
   refine wp_region_held_drew (S:=fun W=>W.cell? ⟨X,0,none⟩=some (.bool false)∧W.cell? ⟨X,1,none⟩=some (.int .i64 0)∧W.cell? ⟨Y,0,none⟩=some (.bool false)∧W.cell? ⟨Y,1,none⟩=some (.int .i64 0)) (by kernel_rfl) (by rw [←HW.out];exact⟨cell_of_blkP (C7.out.b 1 rfl) (j:=0) rfl,cell_of_blkP (C7.out.b 1 rfl) (j:=1) rfl,cell_of_blkP (C7.out.b 0 rfl) (j:=0) rfl,cell_of_blkP (C7.out.b 0 rfl) (j:=1) rfl⟩) (fun hHeld=>?_)
   rw [←HW.out] at hHeld ⊢
   clear HW C6
   refine rT 0 (some 20) ?_
   try simp only [Act.put,q0,q1,q2]
   refine rT 1 (some 21) ?_
   try simp only [Act.put,q0,q1,q2]
   clear hHeld
   refine rR1 2 none (fun K hK=>?_)
   have q3:=cells2 (C7.out.b 3 rfl)
   obtain⟨w8,HW,C8⟩:=C7.out.set2 3 rfl (.bool false) (.int .i64 0)
   dsimp only [List.set] at C8
   go_simp
   rw [←HW.out]
   clear HW C7 q3
   refine hK.out _ _ ?_ (fun hHeld=>?_)
   ·exact⟨cell_of_blkP (C8.out.b 1 rfl) (j:=0) rfl,cell_of_blkP (C8.out.b 1 rfl) (j:=1) rfl,cell_of_blkP (C8.out.b 0 rfl) (j:=0) rfl,cell_of_blkP (C8.out.b 0 rfl) (j:=1) rfl⟩
   clear hK K
   try simp only [Act.put,q0,q1,q2]
   clear hHeld
   refine rR1 3 none (fun K hK=>?_)
   have q2:=cells2 (C8.out.b 2 rfl)
   obtain⟨w9,HW,C9⟩:=C8.out.set2 2 rfl (.bool false) (.int .i64 0)
   dsimp only [List.set] at C9
   go_simp
   rw [←HW.out]
   clear HW C8 q2
   refine hK.out _ _ ?_ (fun hHeld=>?_)
   ·exact⟨cell_of_blkP (C9.out.b 1 rfl) (j:=0) rfl,cell_of_blkP (C9.out.b 1 rfl) (j:=1) rfl,cell_of_blkP (C9.out.b 0 rfl) (j:=0) rfl,cell_of_blkP (C9.out.b 0 rfl) (j:=1) rfl⟩
   clear hK K
   try simp only [Act.put,q0,q1,q2]
   clear hHeld
   refine wpAnyH_done (by kernel_rfl) ?_ _
   go_wp2_with fail
   refine Mz.retAA C9.out 3 2 rfl rfl Tryz.results21 rfl rfl rfl ⟨_,Tryz.underlying43⟩ (by kernel_rfl) (by kernel_rfl) ⟨?_,C9.out.gr.fresh⟩
   unfold vV vOf
   rw [if_pos rfl]
   rfl
  ·have C0:=Lib.hid (My.start w)
   have KW1:Hid (∀w,Calls Tryz.prog 46 #[.int .i64 ((-9223372036854775808))] w fun e w'=>e= .returned (.int .i64 (Co.wrap ((-9223372036854775808))))∧w'=w):=Lib.hid (fun w=>wrapR_any _ w)
   obtain⟨Z1,hZ1⟩:∃q,Co.wrap ((-9223372036854775808))=q:=⟨_,rfl⟩
   rw [hZ1] at KW1
   have HZ1:=Lib.hid hZ1
   clear hZ1
   have KW2:Hid (∀w,Calls Tryz.prog 46 #[.int .i64 (b)] w fun e w'=>e= .returned (.int .i64 (Co.wrap (b)))∧w'=w):=Lib.hid (fun w=>wrapR_any _ w)
   obtain⟨Z2,hZ2⟩:∃q,Co.wrap (b)=q:=⟨_,rfl⟩
   rw [hZ2] at KW2
   have HZ2:=Lib.hid hZ2
   clear hZ2
   have hb0:(b == -9223372036854775808)=false:=beq_eq_false_iff_ne.2 hb
   have HB:=Lib.hid hb
   clear hb
   obtain⟨R1,w10,HX10,HW10,hx10,C10⟩:=C0.out.boxE #[.bool false,.int .i64 0] 43
   obtain⟨R2,w11,HX11,HW11,hx11,C11⟩:=C10.out.boxE #[.bool false,.int .i64 0] 43
   have HY11:Hid (R2=R1+1):=Lib.hid (by rw [HX11.out,HW10.out,HX10.out];simp)
   go_enter Tryz.func21,Tryz.ntmps21
   go_upto_region 1 with fail
   rw [←HX10.out,←HW10.out,←HY11.out,←HW11.out]
   clear HX10 HW10 C0 HY11 HX11 HW11 C10
   go_wp2_with fail
   refine(KW1.out _).mono ?_
   rintro e w' ⟨rfl,hww⟩
   rw [hww]
   clear hww w'
   go_wp2_with fail
   refine(KW2.out _).mono ?_
   rintro e w' ⟨rfl,hww⟩
   rw [hww]
   clear hww w'
   obtain⟨X,w12,HX12,HW12,hx12,C12⟩:=C11.out.boxE #[.bool true,.int .i64 Z1] 43
   obtain⟨Y,w13,HX13,HW13,hx13,C13⟩:=C12.out.boxE #[.bool true,.int .i64 Z2] 43
   have HY13:Hid (Y=X+1):=Lib.hid (by rw [HX13.out,HW12.out,HX12.out];simp)
   go_upto_region 2 with fail
   rw [←HX12.out,←HW12.out,←HY13.out,←HW13.out]
   clear HX12 HW12 C11 HY13 HX13 HW13 C12
   have q1:=cells2 (C13.out.b 1 rfl)
   obtain⟨w14,HW,C14⟩:=C13.out.set2 1 rfl (.bool false) (.int .i64 0)
   dsimp only [List.set] at C14
   go_upto_region 4 with fail
   rw [←HW.out]
   clear HW C13 q1
   go_upto_region 6 with fail
   obtain⟨w15,HW,C15⟩:=C14.out.drewE
   refine wp_region_held_drew (S:=fun W=>W.cell? ⟨X,0,none⟩=some (.bool false)∧W.cell? ⟨X,1,none⟩=some (.int .i64 0)∧W.cell? ⟨Y,0,none⟩=some (.bool true)∧W.cell? ⟨Y,1,none⟩=some (.int .i64 Z2)) (by kernel_rfl) (by rw [←HW.out];exact⟨cell_of_blkP (C15.out.b 1 rfl) (j:=0) rfl,cell_of_blkP (C15.out.b 1 rfl) (j:=1) rfl,cell_of_blkP (C15.out.b 0 rfl) (j:=0) rfl,cell_of_blkP (C15.out.b 0 rfl) (j:=1) rfl⟩) (fun hHeld=>?_)
   rw [←HW.out] at hHeld ⊢
   clear HW C14
   refine rT 0 (some 20) ?_
   try simp only [Act.put,q0,q1,q2]
   refine rT 1 (some 21) ?_
   try simp only [Act.put,q0,q1,q2]
   clear hHeld
   refine rR1 2 none (fun K hK=>?_)
   have q3:=cells2 (C15.out.b 3 rfl)
   obtain⟨w16,HW,C16⟩:=C15.out.set2 3 rfl (.bool false) (.int .i64 0)
   dsimp only [List.set] at C16
   go_simp
   rw [←HW.out]
   clear HW C15 q3
   refine hK.out _ _ ?_ (fun hHeld=>?_)
   ·exact⟨cell_of_blkP (C16.out.b 1 rfl) (j:=0) rfl,cell_of_blkP (C16.out.b 1 rfl) (j:=1) rfl,cell_of_blkP (C16.out.b 0 rfl) (j:=0) rfl,cell_of_blkP (C16.out.b 0 rfl) (j:=1) rfl⟩
   clear hK K
   try simp only [Act.put,q0,q1,q2]
   clear hHeld
   refine rR1 3 none (fun K hK=>?_)
   have q2:=cells2 (C16.out.b 2 rfl)
   obtain⟨w17,HW,C17⟩:=C16.out.set2 2 rfl (.bool true) (.int .i64 Z2)
   dsimp only [List.set] at C17
   go_simp
   rw [←HW.out]
   clear HW C16 q2
   refine hK.out _ _ ?_ (fun hHeld=>?_)
   ·exact⟨cell_of_blkP (C17.out.b 1 rfl) (j:=0) rfl,cell_of_blkP (C17.out.b 1 rfl) (j:=1) rfl,cell_of_blkP (C17.out.b 0 rfl) (j:=0) rfl,cell_of_blkP (C17.out.b 0 rfl) (j:=1) rfl⟩
   clear hK K
   try simp only [Act.put,q0,q1,q2]
   clear hHeld
   refine wpAnyH_done (by kernel_rfl) ?_ _
   go_wp2_with fail
   refine Mz.retAA C17.out 3 2 rfl rfl Tryz.results21 rfl rfl rfl ⟨_,Tryz.underlying43⟩ (by kernel_rfl) (by kernel_rfl) ⟨?_,C17.out.gr.fresh⟩
   unfold vV vOf
   rw [if_pos rfl,if_neg HB.out,HZ2.out]
   rfl
 ·by_cases hb:b= -9223372036854775808
  ·subst hb
   have C0:=Lib.hid (My.start w)
   have KW1:Hid (∀w,Calls Tryz.prog 46 #[.int .i64 (a)] w fun e w'=>e= .returned (.int .i64 (Co.wrap (a)))∧w'=w):=Lib.hid (fun w=>wrapR_any _ w)
   obtain⟨Z1,hZ1⟩:∃q,Co.wrap (a)=q:=⟨_,rfl⟩
   rw [hZ1] at KW1
   have HZ1:=Lib.hid hZ1
   clear hZ1
   have KW2:Hid (∀w,Calls Tryz.prog 46 #[.int .i64 ((-9223372036854775808))] w fun e w'=>e= .returned (.int .i64 (Co.wrap ((-9223372036854775808))))∧w'=w):=Lib.hid (fun w=>wrapR_any _ w)
   obtain⟨Z2,hZ2⟩:∃q,Co.wrap ((-9223372036854775808))=q:=⟨_,rfl⟩
   rw [hZ2] at KW2
   have HZ2:=Lib.hid hZ2
   clear hZ2
   have ha0:(a == -9223372036854775808)=false:=beq_eq_false_iff_ne.2 ha
   have HA:=Lib.hid ha
   clear ha
   obtain⟨R1,w18,HX18,HW18,hx18,C18⟩:=C0.out.boxE #[.bool false,.int .i64 0] 43
   obtain⟨R2,w19,HX19,HW19,hx19,C19⟩:=C18.out.boxE #[.bool false,.int .i64 0] 43
   have HY19:Hid (R2=R1+1):=Lib.hid (by rw [HX19.out,HW18.out,HX18.out];simp)
   go_enter Tryz.func21,Tryz.ntmps21
   go_upto_region 1 with fail
   rw [←HX18.out,←HW18.out,←HY19.out,←HW19.out]
   clear HX18 HW18 C0 HY19 HX19 HW19 C18
   go_wp2_with fail
   refine(KW1.out _).mono ?_
   rintro e w' ⟨rfl,hww⟩
   rw [hww]
   clear hww w'
   go_wp2_with fail
   refine(KW2.out _).mono ?_
   rintro e w' ⟨rfl,hww⟩
   rw [hww]
   clear hww w'
   obtain⟨X,w20,HX20,HW20,hx20,C20⟩:=C19.out.boxE #[.bool true,.int .i64 Z1] 43
   obtain⟨Y,w21,HX21,HW21,hx21,C21⟩:=C20.out.boxE #[.bool true,.int .i64 Z2] 43
   have HY21:Hid (Y=X+1):=Lib.hid (by rw [HX21.out,HW20.out,HX20.out];simp)
   go_upto_region 2 with fail
   rw [←HX20.out,←HW20.out,←HY21.out,←HW21.out]
   clear HX20 HW20 C19 HY21 HX21 HW21 C20
   have q0:=cells2 (C21.out.b 0 rfl)
   obtain⟨w22,HW,C22⟩:=C21.out.set2 0 rfl (.bool false) (.int .i64 0)
   dsimp only [List.set] at C22
   go_upto_region 6 with fail
   rw [←HW.out]
   clear HW C21 q0
   obtain⟨w23,HW,C23⟩:=C22.out.drewE
   refine wp_region_held_drew (S:=fun W=>W.cell? ⟨X,0,none⟩=some (.bool true)∧W.cell? ⟨X,1,none⟩=some (.int .i64 Z1)∧W.cell? ⟨Y,0,none⟩=some (.bool false)∧W.cell? ⟨Y,1,none⟩=some (.int .i64 0)) (by kernel_rfl) (by rw [←HW.out];exact⟨cell_of_blkP (C23.out.b 1 rfl) (j:=0) rfl,cell_of_blkP (C23.out.b 1 rfl) (j:=1) rfl,cell_of_blkP (C23.out.b 0 rfl) (j:=0) rfl,cell_of_blkP (C23.out.b 0 rfl) (j:=1) rfl⟩) (fun hHeld=>?_)
   rw [←HW.out] at hHeld ⊢
   clear HW C22
   refine rT 0 (some 20) ?_
   try simp only [Act.put,q0,q1,q2]
   refine rT 1 (some 21) ?_
   try simp only [Act.put,q0,q1,q2]
   clear hHeld
   refine rR1 2 none (fun K hK=>?_)
   have q3:=cells2 (C23.out.b 3 rfl)
   obtain⟨w24,HW,C24⟩:=C23.out.set2 3 rfl (.bool true) (.int .i64 Z1)
   dsimp only [List.set] at C24
   go_simp
   rw [←HW.out]
   clear HW C23 q3
   refine hK.out _ _ ?_ (fun hHeld=>?_)
   ·exact⟨cell_of_blkP (C24.out.b 1 rfl) (j:=0) rfl,cell_of_blkP (C24.out.b 1 rfl) (j:=1) rfl,cell_of_blkP (C24.out.b 0 rfl) (j:=0) rfl,cell_of_blkP (C24.out.b 0 rfl) (j:=1) rfl⟩
   clear hK K
   try simp only [Act.put,q0,q1,q2]
   clear hHeld
   refine rR1 3 none (fun K hK=>?_)
   have q2:=cells2 (C24.out.b 2 rfl)
   obtain⟨w25,HW,C25⟩:=C24.out.set2 2 rfl (.bool false) (.int .i64 0)
   dsimp only [List.set] at C25
   go_simp
   rw [←HW.out]
   clear HW C24 q2
   refine hK.out _ _ ?_ (fun hHeld=>?_)
   ·exact⟨cell_of_blkP (C25.out.b 1 rfl) (j:=0) rfl,cell_of_blkP (C25.out.b 1 rfl) (j:=1) rfl,cell_of_blkP (C25.out.b 0 rfl) (j:=0) rfl,cell_of_blkP (C25.out.b 0 rfl) (j:=1) rfl⟩
   clear hK K
   try simp only [Act.put,q0,q1,q2]
   clear hHeld
   refine wpAnyH_done (by kernel_rfl) ?_ _
   go_wp2_with fail
   refine Mz.retAA C25.out 3 2 rfl rfl Tryz.results21 rfl rfl rfl ⟨_,Tryz.underlying43⟩ (by kernel_rfl) (by kernel_rfl) ⟨?_,C25.out.gr.fresh⟩
   unfold vV vOf
   rw [if_neg HA.out,if_pos rfl,HZ1.out]
   rfl
  ·have C0:=Lib.hid (My.start w)
   have KW1:Hid (∀w,Calls Tryz.prog 46 #[.int .i64 (a)] w fun e w'=>e= .returned (.int .i64 (Co.wrap (a)))∧w'=w):=Lib.hid (fun w=>wrapR_any _ w)
   obtain⟨Z1,hZ1⟩:∃q,Co.wrap (a)=q:=⟨_,rfl⟩
   rw [hZ1] at KW1
   have HZ1:=Lib.hid hZ1
   clear hZ1
   have KW2:Hid (∀w,Calls Tryz.prog 46 #[.int .i64 (b)] w fun e w'=>e= .returned (.int .i64 (Co.wrap (b)))∧w'=w):=Lib.hid (fun w=>wrapR_any _ w)
   obtain⟨Z2,hZ2⟩:∃q,Co.wrap (b)=q:=⟨_,rfl⟩
   rw [hZ2] at KW2
   have HZ2:=Lib.hid hZ2
   clear hZ2
   have ha0:(a == -9223372036854775808)=false:=beq_eq_false_iff_ne.2 ha
   have HA:=Lib.hid ha
   clear ha
   have hb0:(b == -9223372036854775808)=false:=beq_eq_false_iff_ne.2 hb
   have HB:=Lib.hid hb
   clear hb
   obtain⟨R1,w26,HX26,HW26,hx26,C26⟩:=C0.out.boxE #[.bool false,.int .i64 0] 43
   obtain⟨R2,w27,HX27,HW27,hx27,C27⟩:=C26.out.boxE #[.bool false,.int .i64 0] 43
   have HY27:Hid (R2=R1+1):=Lib.hid (by rw [HX27.out,HW26.out,HX26.out];simp)
   go_enter Tryz.func21,Tryz.ntmps21
   go_upto_region 1 with fail
   rw [←HX26.out,←HW26.out,←HY27.out,←HW27.out]
   clear HX26 HW26 C0 HY27 HX27 HW27 C26
   go_wp2_with fail
   refine(KW1.out _).mono ?_
   rintro e w' ⟨rfl,hww⟩
   rw [hww]
   clear hww w'
   go_wp2_with fail
   refine(KW2.out _).mono ?_
   rintro e w' ⟨rfl,hww⟩
   rw [hww]
   clear hww w'
   obtain⟨X,w28,HX28,HW28,hx28,C28⟩:=C27.out.boxE #[.bool true,.int .i64 Z1] 43
   obtain⟨Y,w29,HX29,HW29,hx29,C29⟩:=C28.out.boxE #[.bool true,.int .i64 Z2] 43
   have HY29:Hid (Y=X+1):=Lib.hid (by rw [HX29.out,HW28.out,HX28.out];simp)
   go_upto_region 2 with fail
   rw [←HX28.out,←HW28.out,←HY29.out,←HW29.out]
   clear HX28 HW28 C27 HY29 HX29 HW29 C28
   go_upto_region 6 with fail
   obtain⟨w30,HW,C30⟩:=C29.out.drewE
   refine wp_region_held_drew (S:=fun W=>W.cell? ⟨X,0,none⟩=some (.bool true)∧W.cell? ⟨X,1,none⟩=some (.int .i64 Z1)∧W.cell? ⟨Y,0,none⟩=some (.bool true)∧W.cell? ⟨Y,1,none⟩=some (.int .i64 Z2)) (by kernel_rfl) (by rw [←HW.out];exact⟨cell_of_blkP (C30.out.b 1 rfl) (j:=0) rfl,cell_of_blkP (C30.out.b 1 rfl) (j:=1) rfl,cell_of_blkP (C30.out.b 0 rfl) (j:=0) rfl,cell_of_blkP (C30.out.b 0 rfl) (j:=1) rfl⟩) (fun hHeld=>?_)
   rw [←HW.out] at hHeld ⊢
   clear HW C29
   refine rT 0 (some 20) ?_
   try simp only [Act.put,q0,q1,q2]
   refine rT 1 (some 21) ?_
   try simp only [Act.put,q0,q1,q2]
   clear hHeld
   refine rR1 2 none (fun K hK=>?_)
   have q3:=cells2 (C30.out.b 3 rfl)
   obtain⟨w31,HW,C31⟩:=C30.out.set2 3 rfl (.bool true) (.int .i64 Z1)
   dsimp only [List.set] at C31
   go_simp
   rw [←HW.out]
   clear HW C30 q3
   refine hK.out _ _ ?_ (fun hHeld=>?_)
   ·exact⟨cell_of_blkP (C31.out.b 1 rfl) (j:=0) rfl,cell_of_blkP (C31.out.b 1 rfl) (j:=1) rfl,cell_of_blkP (C31.out.b 0 rfl) (j:=0) rfl,cell_of_blkP (C31.out.b 0 rfl) (j:=1) rfl⟩
   clear hK K
   try simp only [Act.put,q0,q1,q2]
   clear hHeld
   refine rR1 3 none (fun K hK=>?_)
   have q2:=cells2 (C31.out.b 2 rfl)
   obtain⟨w32,HW,C32⟩:=C31.out.set2 2 rfl (.bool true) (.int .i64 Z2)
   dsimp only [List.set] at C32
   go_simp
   rw [←HW.out]
   clear HW C31 q2
   refine hK.out _ _ ?_ (fun hHeld=>?_)
   ·exact⟨cell_of_blkP (C32.out.b 1 rfl) (j:=0) rfl,cell_of_blkP (C32.out.b 1 rfl) (j:=1) rfl,cell_of_blkP (C32.out.b 0 rfl) (j:=0) rfl,cell_of_blkP (C32.out.b 0 rfl) (j:=1) rfl⟩
   clear hK K
   try simp only [Act.put,q0,q1,q2]
   clear hHeld
   refine wpAnyH_done (by kernel_rfl) ?_ _
   go_wp2_with fail
   refine Mz.retAA C32.out 3 2 rfl rfl Tryz.results21 rfl rfl rfl ⟨_,Tryz.underlying43⟩ (by kernel_rfl) (by kernel_rfl) ⟨?_,C32.out.gr.fresh⟩
   unfold vV vOf
   rw [if_neg HA.out,if_neg HB.out,HZ1.out,HZ2.out]
   rfl
set_option maxRecDepth 100000 in
set_option maxHeartbeats 40000000 in
theorem law_safe (e:Tr.E) (a b:Int) (v:Value) (w:World) (hE:CoEnv w) (h:BdE e∧SlE w v e.args):
 Calls Tryz.prog 5 #[exprV e v,.int .i64 a,.int .i64 b] w fun r w'=>r= .returned (.bool true)∧Below w.heap.size w w':=by
 obtain⟨hbd,hS⟩:=h
 obtain⟨p,c,rfl,_⟩:=hS.form
 obtain⟨N,hN⟩:∃q,e.args.length=q:=⟨_,rfl⟩
 rw [hN] at hS ⊢
 have HB:=Lib.hid hbd
 have HE:=Lib.hid hE
 have C0:=Lib.hid (Mo.add (Mo.start w) (r:=RE (.slice p N c) e.args) re_mn hS)
 clear hS hbd hE hN
 unfold exprV
 obtain⟨E,w33,HX33,HW33,hx33,C33⟩:=C0.out.boxE #[.int .i64 e.kind,.int .i64 e.op,.int .i64 e.int,.string e.name,.bool e.at_,.slice p N c] 37
 go_enter Tryz.func5,Tryz.ntmps5
 go_upto_region 1 with fail
 rw [←HX33.out,←HW33.out]
 clear HX33 HW33 C0
 go_wp2_with fail
 have hk:=awake42_any w33 (HE.out.keep C33.out.gr.fresh)
 refine hk.mono ?_
 clear hk
 rintro e w34 ⟨rfl,hb9⟩
 have C34:=Lib.hid (Mz.below C33.out hb9)
 clear hb9 C33
 cases hf:Tr.fewE e 80
 ·have q0:=cells6 (C34.out.b 0 rfl)
  go_wp2_with fail
  clear q0
  have hk:=fewExpr_any e (.slice p N c) 80 w34 HB.out (C34.out.rd 0 rfl) (by decide) (by decide)
  unfold exprV at hk
  rw [hf] at hk
  refine hk.mono ?_
  clear hk
  rintro e w35 ⟨rfl,hb9⟩
  have C35:=Lib.hid (Mz.below C34.out hb9)
  clear hb9 C34
  go_wp2_with fail
  go_ret
  exact⟨rfl,C35.out.gr.fresh⟩
 ·have q0:=cells6 (C34.out.b 0 rfl)
  go_wp2_with fail
  clear q0
  have hk:=fewExpr_any e (.slice p N c) 80 w34 HB.out (C34.out.rd 0 rfl) (by decide) (by decide)
  unfold exprV at hk
  rw [hf] at hk
  refine hk.mono ?_
  clear hk
  rintro e w36 ⟨rfl,hb9⟩
  have C36:=Lib.hid (Mz.below C34.out hb9)
  clear hb9 C34
  have HW:=Lib.hid (few_wE hf (by decide))
  clear hf
  cases hv:Tr.validE e
  ·have q0:=cells6 (C36.out.b 0 rfl)
   go_wp2_with fail
   clear q0
   have hk:=validExprR_any e.deep e (.slice p N c) w36 (Nat.le_refl _) HB.out (C36.out.rd 0 rfl)
   unfold exprV at hk
   rw [hv] at hk
   refine hk.mono ?_
   clear hk
   rintro e w37 ⟨rfl,hb9⟩
   have C37:=Lib.hid (Mz.below C36.out hb9)
   clear hb9 C36
   go_wp2_with fail
   go_ret
   exact⟨rfl,C37.out.gr.fresh⟩
  ·have q0:=cells6 (C36.out.b 0 rfl)
   go_wp2_with fail
   clear q0
   have hk:=validExprR_any e.deep e (.slice p N c) w36 (Nat.le_refl _) HB.out (C36.out.rd 0 rfl)
   unfold exprV at hk
   rw [hv] at hk
   refine hk.mono ?_
   clear hk
   rintro e w38 ⟨rfl,hb9⟩
   have C38:=Lib.hid (Mz.below C36.out hb9)
   clear hb9 C36
   cases hc:Co.cov e
   ·have q0:=cells6 (C38.out.b 0 rfl)
    go_wp2_with fail
    clear q0
    have hk:=coveredL_any e.deep e (.slice p N c) w38 (Nat.le_refl _) HB.out (C38.out.rd 0 rfl)
    unfold exprV at hk
    rw [hc] at hk
    refine hk.mono ?_
    clear hk
    rintro e w39 ⟨rfl,hb9⟩
    have C39:=Lib.hid (Mz.below C38.out hb9)
    clear hb9 C38
    go_wp2_with fail
    go_ret
    exact⟨rfl,C39.out.gr.fresh⟩
   ·have q0:=cells6 (C38.out.b 0 rfl)
    go_wp2_with fail
    clear q0
    have hk:=coveredL_any e.deep e (.slice p N c) w38 (Nat.le_refl _) HB.out (C38.out.rd 0 rfl)
    unfold exprV at hk
    rw [hc] at hk
    refine hk.mono ?_
    clear hk
    rintro e w40 ⟨rfl,hb9⟩
    have C40:=Lib.hid (Mz.below C38.out hb9)
    clear hb9 C38
    have HV:=Lib.hid hv
    have HC:=Lib.hid hc
    clear hv hc
    obtain⟨A,hA⟩:∃q,vOf a=q:=⟨_,rfl⟩
    obtain⟨B,hB⟩:∃q,vOf b=q:=⟨_,rfl⟩
    obtain⟨sA,hsA⟩:∃q,A.isSome=q:=⟨_,rfl⟩
    obtain⟨nA,hnA⟩:∃q,A.getD 0=q:=⟨_,rfl⟩
    have HSA:=Lib.hid hsA
    have HNA:=Lib.hid hnA
    clear hsA hnA
    obtain⟨sB,hsB⟩:∃q,B.isSome=q:=⟨_,rfl⟩
    obtain⟨nB,hnB⟩:∃q,B.getD 0=q:=⟨_,rfl⟩
    have HSB:=Lib.hid hsB
    have HNB:=Lib.hid hnB
    clear hsB hnB
    obtain⟨v9,f9,k9,hev⟩:∃v f k,Co.eval 7 2 A B e=(v,f,k):=⟨_,_,_,rfl⟩
    obtain rfl:k9=true:=by have h9:=(Co.eval_ok (et:=7) (er:=2) (a:=A) (b:=B) e HV.out HC.out).1;rw [hev] at h9;exact h9
    have HEV:=Lib.hid hev
    obtain⟨s9,hs9⟩:∃q,v9.isSome=q:=⟨_,rfl⟩
    obtain⟨n9,hn9⟩:∃q,v9.getD 0=q:=⟨_,rfl⟩
    have HS9:=Lib.hid hs9
    have HN9:=Lib.hid hn9
    obtain⟨x,hx⟩:∃q,Co.foldV e=q:=⟨_,rfl⟩
    have HX0:=Lib.hid hx
    have HXF:Hid (Co.eval 7 2 A B x=(v9,f9,true)∧Tr.validE x=true∧Co.cov x=true):=Lib.hid (by
     have h1:Co.foldV e=Co.fold e:=by unfold Co.foldV;rw [if_pos HV.out]
     have h2:=Co.foldV_valid e
     rw [hx,HV.out] at h2
     rw [←hx,h1,Co.eval_fold e HV.out HC.out,hev]
     exact⟨rfl,by rw [←h1,hx];exact h2,Co.cov_fold e HC.out⟩)
    clear hev hs9 hn9 hx
    have q0:=cells6 (C40.out.b 0 rfl)
    go_wp2_with fail
    clear q0
    have hk:=valuesL_any a b w40
    rw [hA,hB] at hk
    unfold vV at hk
    rw [HSA.out,HNA.out,HSB.out,HNB.out] at hk
    clear hA hB
    refine hk.mono ?_
    clear hk
    rintro e w41 ⟨rfl,hb9⟩
    have C41:=Lib.hid (Mz.below C40.out hb9)
    clear hb9 C40
    obtain⟨X,w42,HX42,HW42,hx42,C42⟩:=C41.out.boxE #[.bool sA,.int .i64 nA] 43
    obtain⟨Y,w43,HX43,HW43,hx43,C43⟩:=C42.out.boxE #[.bool sB,.int .i64 nB] 43
    have HY43:Hid (Y=X+1):=Lib.hid (by rw [HX43.out,HW42.out,HX42.out];simp)
    go_upto_region 6 with fail
    rw [←HX42.out,←HW42.out,←HY43.out,←HW43.out]
    clear HX42 HW42 C41 HY43 HX43 HW43 C42
    have q2:=cells6 (C43.out.b 2 rfl)
    have q1:=cells2 (C43.out.b 1 rfl)
    have q0:=cells2 (C43.out.b 0 rfl)
    go_wp2_with fail
    clear q2 q1 q0
    have hk:=evaluateL_any A B e.deep e (.slice p N c) w43 (Nat.le_refl _) HV.out HC.out HB.out (C43.out.rd 0 rfl)
    unfold exprV at hk
    unfold vV at hk
    rw [HSA.out,HNA.out,HSB.out,HNB.out,HEV.out] at hk
    dsimp only at hk
    rw [HS9.out,HN9.out] at hk
    refine hk.mono ?_
    clear hk
    rintro e w44 ⟨rfl,hb9⟩
    have C44:=Lib.hid (Mz.below C43.out hb9)
    clear hb9 C43
    obtain⟨Z,w45,HX45,HW45,hx45,C45⟩:=C44.out.boxE #[.bool s9,.int .i64 n9] 43
    go_upto_region 7 with fail
    rw [←HX45.out,←HW45.out]
    clear HX45 HW45 C44
    obtain⟨w46,HW,C46⟩:=C45.out.drewE
    refine wp_region_held_drew (S:=fun W=>W.cell? ⟨E,0,none⟩=some (.int .i64 e.kind)∧W.cell? ⟨E,1,none⟩=some (.int .i64 e.op)∧W.cell? ⟨E,2,none⟩=some (.int .i64 e.int)∧W.cell? ⟨E,3,none⟩=some (.string e.name)∧W.cell? ⟨E,4,none⟩=some (.bool e.at_)∧W.cell? ⟨E,5,none⟩=some (.slice p N c)∧W.cell? ⟨X,0,none⟩=some (.bool sA)∧W.cell? ⟨X,1,none⟩=some (.int .i64 nA)∧W.cell? ⟨Y,0,none⟩=some (.bool sB)∧W.cell? ⟨Y,1,none⟩=some (.int .i64 nB)) (by kernel_rfl) (by rw [←HW.out];exact⟨cell_of_blkP (C46.out.b 3 rfl) (j:=0) rfl,cell_of_blkP (C46.out.b 3 rfl) (j:=1) rfl,cell_of_blkP (C46.out.b 3 rfl) (j:=2) rfl,cell_of_blkP (C46.out.b 3 rfl) (j:=3) rfl,cell_of_blkP (C46.out.b 3 rfl) (j:=4) rfl,cell_of_blkP (C46.out.b 3 rfl) (j:=5) rfl,cell_of_blkP (C46.out.b 2 rfl) (j:=0) rfl,cell_of_blkP (C46.out.b 2 rfl) (j:=1) rfl,cell_of_blkP (C46.out.b 1 rfl) (j:=0) rfl,cell_of_blkP (C46.out.b 1 rfl) (j:=1) rfl⟩) (fun hHeld=>?_)
    rw [←HW.out] at hHeld ⊢
    clear HW C45
    refine rT 0 (some 45) ?_
    try simp only [Act.put,q0,q1,q2]
    refine rT 2 (some 47) ?_
    try simp only [Act.put,q0,q1,q2]
    refine rT 3 (some 48) ?_
    try simp only [Act.put,q0,q1,q2]
    clear hHeld
    refine rR2 1 (some 46) 9 (some 12) (fun K hK=>?_) (fun K hK=>?_)
    ·go_simp
     have hk:=Fold_any e (.slice p N c) w46 (HE.out.keep C46.out.gr.fresh).syn.lex HW.out HB.out (C46.out.rd 0 rfl)
     unfold exprV at hk
     refine hk.mono ?_
     clear hk
     rintro e w47 ⟨a9,rfl,hbx9,hsx9,hb9⟩
     rw [HX0.out] at hbx9 hsx9 ⊢
     obtain⟨px,cx,rfl,_⟩:=hsx9.form
     obtain⟨NX,hNX⟩:∃q,x.args.length=q:=⟨_,rfl⟩
     rw [hNX] at hsx9 ⊢
     clear hNX
     have HBX:=Lib.hid hbx9
     have HSX:Hid (SlE w47 (.slice px NX cx) x.args):=Lib.hid hsx9
     have HWX:Hid (Below w47.heap.size w47 w47):=Lib.hid (Below.refl _ _)
     clear hsx9 hbx9
     unfold exprV
     have C47:=Lib.hid (Mz.below C46.out hb9)
     clear hb9 C46
     go_wp2_with fail
     refine hK.out _ _ ?_ (fun hHeld=>?_)
     ·exact sl_of C47.out 3 2 1 rfl rfl rfl
     clear hK K
     try simp only [Act.put,q0,q1,q2]
     clear hHeld
     refine rR2 4 (some 49) 9 (some 12) (fun K hK=>?_) (fun K hK=>?_)
     ·go_simp
      have hk:=evaluateL_any A B x.deep x (.slice px NX cx) w47 (Nat.le_refl _) HXF.out.2.1 HXF.out.2.2 HBX.out (HSX.out.keep HWX.out)
      unfold exprV at hk
      unfold vV at hk
      rw [HSA.out,HNA.out,HSB.out,HNB.out,HXF.out.1] at hk
      dsimp only at hk
      rw [HS9.out,HN9.out] at hk
      refine hk.mono ?_
      clear hk
      rintro e w48 ⟨rfl,hb9⟩
      have C48:=Lib.hid (Mz.below C47.out hb9)
      clear hb9 C47
      go_wp2_with fail
      refine hK.out _ _ ?_ (fun hHeld=>?_)
      ·exact sl_of C48.out 3 2 1 rfl rfl rfl
      clear hK K
      try simp only [Act.put,q0,q1,q2]
      refine rT 5 (some 44) ?_
      try simp only [Act.put,q0,q1,q2]
      refine rT 6 (some 50) ?_
      try simp only [Act.put,q0,q1,q2]
      refine rT 7 (some 51) ?_
      try simp only [Act.put,q0,q1,q2]
      refine rT 8 (some 52) ?_
      try simp only [Act.put,q0,q1,q2]
      clear hHeld
      refine rR1 9 (some 12) (fun K hK=>?_)
      obtain⟨U,w49,HX,HW9,hx49,C49⟩:=C48.out.boxE #[.bool false,.int .i64 0] 43
      go_simp
      rw [←HX.out,←HW9.out]
      clear HX HW9 C48
      refine hK.out _ _ ?_ (fun hHeld=>?_)
      ·exact sl_of C49.out 4 3 2 rfl rfl rfl
      clear hK K
      try simp only [Act.put,q0,q1,q2]
      clear hHeld
      have q0:=cells2 (C49.out.b 0 rfl)
      obtain⟨w50,HW,C50⟩:=C49.out.set2 0 rfl (.bool s9) (.int .i64 n9)
      dsimp only [List.set] at C50
      refine rR1 10 none (fun K hK=>?_)
      go_simp
      rw [←HW.out]
      clear HW C49 q0
      refine hK.out _ _ ?_ (fun hHeld=>?_)
      ·exact sl_of C50.out 4 3 2 rfl rfl rfl
      clear hK K
      try simp only [Act.put,q0,q1,q2]
      refine rT 11 (some 13) ?_
      try simp only [Act.put,q0,q1,q2]
      refine rT 12 (some 14) ?_
      try simp only [Act.put,q0,q1,q2]
      refine wpAnyH_done (by kernel_rfl) ?_ _
      clear hHeld
      have q1:=cells2 (C50.out.b 1 rfl)
      have q0:=cells2 (C50.out.b 0 rfl)
      go_wp2_with fail
      clear q1 q0
      go_ret
      exact⟨by first|rfl|simp,C50.out.gr.fresh⟩
     ·obtain⟨U,w51,HX,HW9,hx51,C51⟩:=C47.out.boxE #[.bool false,.int .i64 0] 43
      go_simp
      rw [←HX.out,←HW9.out]
      have HWY:Hid (Below w47.heap.size w47 w51):=Lib.hid (by rw [HW9.out];exact below_box _ _)
      clear HWX
      have HWX:=HWY
      clear HX HW9 C47
      refine hK.out _ _ ?_ (fun hHeld=>?_)
      ·exact sl_of C51.out 4 3 2 rfl rfl rfl
      clear hK K
      try simp only [Act.put,q0,q1,q2]
      clear hHeld
      refine rR1 4 (some 49) (fun K hK=>?_)
      go_simp
      have hk:=evaluateL_any A B x.deep x (.slice px NX cx) w51 (Nat.le_refl _) HXF.out.2.1 HXF.out.2.2 HBX.out (HSX.out.keep HWX.out)
      unfold exprV at hk
      unfold vV at hk
      rw [HSA.out,HNA.out,HSB.out,HNB.out,HXF.out.1] at hk
      dsimp only at hk
      rw [HS9.out,HN9.out] at hk
      refine hk.mono ?_
      clear hk
      rintro e w52 ⟨rfl,hb9⟩
      have C52:=Lib.hid (Mz.below C51.out hb9)
      clear hb9 C51
      go_wp2_with fail
      refine hK.out _ _ ?_ (fun hHeld=>?_)
      ·exact sl_of C52.out 4 3 2 rfl rfl rfl
      clear hK K
      try simp only [Act.put,q0,q1,q2]
      refine rT 5 (some 44) ?_
      try simp only [Act.put,q0,q1,q2]
      refine rT 6 (some 50) ?_
      try simp only [Act.put,q0,q1,q2]
      refine rT 7 (some 51) ?_
      try simp only [Act.put,q0,q1,q2]
      refine rT 8 (some 52) ?_
      try simp only [Act.put,q0,q1,q2]
      clear hHeld
      have q0:=cells2 (C52.out.b 0 rfl)
      obtain⟨w53,HW,C53⟩:=C52.out.set2 0 rfl (.bool s9) (.int .i64 n9)
      dsimp only [List.set] at C53
      refine rR1 10 none (fun K hK=>?_)
      go_simp
      rw [←HW.out]
      clear HW C52 q0
      refine hK.out _ _ ?_ (fun hHeld=>?_)
      ·exact sl_of C53.out 4 3 2 rfl rfl rfl
      clear hK K
      try simp only [Act.put,q0,q1,q2]
      refine rT 11 (some 13) ?_
      try simp only [Act.put,q0,q1,q2]
      refine rT 12 (some 14) ?_
      try simp only [Act.put,q0,q1,q2]
      refine wpAnyH_done (by kernel_rfl) ?_ _
      clear hHeld
      have q1:=cells2 (C53.out.b 1 rfl)
      have q0:=cells2 (C53.out.b 0 rfl)
      go_wp2_with fail
      clear q1 q0
      go_ret
      exact⟨by first|rfl|simp,C53.out.gr.fresh⟩
    ·obtain⟨U,w54,HX,HW9,hx54,C54⟩:=C46.out.boxE #[.bool false,.int .i64 0] 43
     go_simp
     rw [←HX.out,←HW9.out]
     clear HX HW9 C46
     refine hK.out _ _ ?_ (fun hHeld=>?_)
     ·exact sl_of C54.out 4 3 2 rfl rfl rfl
     clear hK K
     try simp only [Act.put,q0,q1,q2]
     clear hHeld
     refine rR1 1 (some 46) (fun K hK=>?_)
     go_simp
     have hk:=Fold_any e (.slice p N c) w54 (HE.out.keep C54.out.gr.fresh).syn.lex HW.out HB.out (C54.out.rd 0 rfl)
     unfold exprV at hk
     refine hk.mono ?_
     clear hk
     rintro e w55 ⟨a9,rfl,hbx9,hsx9,hb9⟩
     rw [HX0.out] at hbx9 hsx9 ⊢
     obtain⟨px,cx,rfl,_⟩:=hsx9.form
     obtain⟨NX,hNX⟩:∃q,x.args.length=q:=⟨_,rfl⟩
     rw [hNX] at hsx9 ⊢
     clear hNX
     have HBX:=Lib.hid hbx9
     have HSX:Hid (SlE w55 (.slice px NX cx) x.args):=Lib.hid hsx9
     have HWX:Hid (Below w55.heap.size w55 w55):=Lib.hid (Below.refl _ _)
     clear hsx9 hbx9
     unfold exprV
     have C55:=Lib.hid (Mz.below C54.out hb9)
     clear hb9 C54
     go_wp2_with fail
     refine hK.out _ _ ?_ (fun hHeld=>?_)
     ·exact sl_of C55.out 4 3 2 rfl rfl rfl
     clear hK K
     try simp only [Act.put,q0,q1,q2]
     clear hHeld
     refine rR1 4 (some 49) (fun K hK=>?_)
     go_simp
     have hk:=evaluateL_any A B x.deep x (.slice px NX cx) w55 (Nat.le_refl _) HXF.out.2.1 HXF.out.2.2 HBX.out (HSX.out.keep HWX.out)
     unfold exprV at hk
     unfold vV at hk
     rw [HSA.out,HNA.out,HSB.out,HNB.out,HXF.out.1] at hk
     dsimp only at hk
     rw [HS9.out,HN9.out] at hk
     refine hk.mono ?_
     clear hk
     rintro e w56 ⟨rfl,hb9⟩
     have C56:=Lib.hid (Mz.below C55.out hb9)
     clear hb9 C55
     go_wp2_with fail
     refine hK.out _ _ ?_ (fun hHeld=>?_)
     ·exact sl_of C56.out 4 3 2 rfl rfl rfl
     clear hK K
     try simp only [Act.put,q0,q1,q2]
     refine rT 5 (some 44) ?_
     try simp only [Act.put,q0,q1,q2]
     refine rT 6 (some 50) ?_
     try simp only [Act.put,q0,q1,q2]
     refine rT 7 (some 51) ?_
     try simp only [Act.put,q0,q1,q2]
     refine rT 8 (some 52) ?_
     try simp only [Act.put,q0,q1,q2]
     clear hHeld
     have q0:=cells2 (C56.out.b 0 rfl)
     obtain⟨w57,HW,C57⟩:=C56.out.set2 0 rfl (.bool s9) (.int .i64 n9)
     dsimp only [List.set] at C57
     refine rR1 10 none (fun K hK=>?_)
     go_simp
     rw [←HW.out]
     clear HW C56 q0
     refine hK.out _ _ ?_ (fun hHeld=>?_)
     ·exact sl_of C57.out 4 3 2 rfl rfl rfl
     clear hK K
     try simp only [Act.put,q0,q1,q2]
     refine rT 11 (some 13) ?_
     try simp only [Act.put,q0,q1,q2]
     refine rT 12 (some 14) ?_
     try simp only [Act.put,q0,q1,q2]
     refine wpAnyH_done (by kernel_rfl) ?_ _
     clear hHeld
     have q1:=cells2 (C57.out.b 1 rfl)
     have q0:=cells2 (C57.out.b 0 rfl)
     go_wp2_with fail
     clear q1 q0
     go_ret
     exact⟨by first|rfl|simp,C57.out.gr.fresh⟩
end Cw
end Go.Proofs.YtcnmfcgmnkncaaaGreatDoor
