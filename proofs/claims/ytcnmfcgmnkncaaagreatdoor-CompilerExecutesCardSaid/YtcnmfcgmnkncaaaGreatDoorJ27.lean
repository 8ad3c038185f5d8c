/-
  values of the laws of chapter 42: bit, truth, negate, operate, covered, values, walked.
-/
import Derived.Test.YtcnmfcgmnkncaaaGreatDoorJ26
namespace Go.Proofs.YtcnmfcgmnkncaaaGreatDoor
namespace Cw
open Go.RowKit Go.Maps Pw
theorem Mz.set2 {B0 V:Nat} {w W:World} {o0 ow:List Nat} {Q:World→Prop} {bs:List Bk} {os:List (World→Prop)} {X:Nat} {y0 y1:Value} {t:TypeId} (h:Mz B0 V w o0 Q ow bs os W) (i:Nat) (hi:bs[i]? =some (X,#[y0,y1],t)) (v0 v1:Value):
 ∃W',Hid (W'=(W.setCell ⟨X,0,none⟩ v0).setCell ⟨X,1,none⟩ v1)∧Hid (Mz B0 V w o0 Q ow (bs.set i (X,#[v0,v1],t)) os W'):=
 ⟨_,zh rfl,zh (h.set i hi (zL (zH W X 0 v0) (zH _ X 1 v1)) (heap_set (j:=1) v1 (heap_set (j:=0) v0 (h.b i hi))))⟩
def vV (v:Co.Val):Value:= .agg #[.bool v.isSome,.int .i64 (v.getD 0)]
section
variable {B0 V:Nat} {w W:World} {o0 ow:List Nat} {Q:World→Prop} {bs:List Bk} {os:List (World→Prop)} {R:Nat} {cs:Array Value} {t:TypeId} {fn:Func} {q:Tmp} {A:Act} {Post:Ending→World→Prop}
theorem Mz.retA (h:Mz B0 V w o0 Q ow bs os W) (i:Nat) (hi:bs[i]? =some (R,cs,t)) (hr:fn.results= #[.cell q t]) (hq:A.tmps.getD q undef= .pointer (some ⟨R,0,none⟩)) (hd:A.defers= []) (hu:∃fs,Tryz.prog.underlying t=some (.struct fs)) (hz:(Tryz.prog.info? t).map (·.size)=some cs.size) (hp:Post (.returned (.agg cs)) W):
 bodyPost Tryz.prog fn Post .ret A W:=by
 obtain⟨fs,hu⟩:=hu
 exact bodyPost_ret (v:= .agg cs) (results_cell_row hr _ _ R _ _ _ _ hq (h.b i hi) hu rfl hz) hd hp
theorem Mz.retA1 {u:Tmp} {eu:Value} (h:Mz B0 V w o0 Q ow bs os W) (i:Nat) (hi:bs[i]? =some (R,cs,t)) (hr:fn.results= #[.cell q t,.tmp u]) (hq:A.tmps.getD q undef= .pointer (some ⟨R,0,none⟩)) (he:A.tmps.getD u undef=eu) (hd:A.defers= []) (hu:∃fs,Tryz.prog.underlying t=some (.struct fs)) (hz:(Tryz.prog.info? t).map (·.size)=some cs.size) (hp:Post (.returned (.tuple #[.agg cs,eu])) W):
 bodyPost Tryz.prog fn Post .ret A W:=by
 subst he
 obtain⟨fs,hu⟩:=hu
 exact bodyPost_ret (v:= .tuple #[.agg cs,A.tmps.getD u undef]) (zAH hr _ _ R _ _ _ _ hq (h.b i hi) hu rfl hz) hd hp
theorem Mz.retA2 {u u2:Tmp} {eu eu2:Value} (h:Mz B0 V w o0 Q ow bs os W) (i:Nat) (hi:bs[i]? =some (R,cs,t)) (hr:fn.results= #[.cell q t,.tmp u,.tmp u2]) (hq:A.tmps.getD q undef= .pointer (some ⟨R,0,none⟩)) (he:A.tmps.getD u undef=eu) (he2:A.tmps.getD u2 undef=eu2) (hd:A.defers= []) (hu:∃fs,Tryz.prog.underlying t=some (.struct fs)) (hz:(Tryz.prog.info? t).map (·.size)=some cs.size) (hp:Post (.returned (.tuple #[.agg cs,eu,eu2])) W):
 bodyPost Tryz.prog fn Post .ret A W:=by
 subst he
 subst he2
 obtain⟨fs,hu⟩:=hu
 refine bodyPost_ret (v:= .tuple #[.agg cs,A.tmps.getD u undef,A.tmps.getD u2 undef]) ?_ hd hp
 simp only [results,hr]
 have hq':A.tmps[q]?.getD undef= .pointer (some ⟨R,0,none⟩):=by simpa using hq
 simp [hq',asAddr,run_loadVar_row W R t t cs (0,0) _ (h.b i hi) hu rfl hz]
end
set_option maxRecDepth 100000 in
set_option maxHeartbeats 4000000 in
theorem zAG (b:Bool) (w:World):
 Calls Tryz.prog 47 #[.bool b] w fun e w'=>e= .returned (vV (some (Co.bit b)))∧Below w.heap.size w w':=by
 cases b
 ·have C0:=zh (My.start w)
  obtain⟨R,w1,HX1,HW1,hx1,C1⟩:=C0.out.boxE #[.bool false,.int .i64 0] 43
  go_enter Tryz.func47,Tryz.ntmps47
  go_upto_region 1 with fail
  rw [←HX1.out,←HW1.out]
  clear HX1 HW1 C0
  have q0:=cells2 (C1.out.b 0 rfl)
  obtain⟨w2,HW,C2⟩:=C1.out.set2 0 rfl (.bool true) (.int .i64 0)
  dsimp only [List.set] at C2
  go_wp2_with fail
  rw [←HW.out]
  clear HW C1 q0
  exact Mz.retA C2.out 0 rfl Tryz.results47 rfl rfl ⟨_,Tryz.underlying43⟩ (by kernel_rfl) ⟨rfl,C2.out.gr.fresh⟩
 ·have C0:=zh (My.start w)
  obtain⟨R,w3,HX3,HW3,hx3,C3⟩:=C0.out.boxE #[.bool false,.int .i64 0] 43
  go_enter Tryz.func47,Tryz.ntmps47
  go_upto_region 1 with fail
  rw [←HX3.out,←HW3.out]
  clear HX3 HW3 C0
  have q0:=cells2 (C3.out.b 0 rfl)
  obtain⟨w4,HW,C4⟩:=C3.out.set2 0 rfl (.bool true) (.int .i64 1)
  dsimp only [List.set] at C4
  go_wp2_with fail
  rw [←HW.out]
  clear HW C3 q0
  exact Mz.retA C4.out 0 rfl Tryz.results47 rfl rfl ⟨_,Tryz.underlying43⟩ (by kernel_rfl) ⟨rfl,C4.out.gr.fresh⟩
set_option maxRecDepth 100000 in
set_option maxHeartbeats 4000000 in
theorem zBM (v:Co.Val) (w:World):
 Calls Tryz.prog 48 #[vV v] w fun e w'=>e= .returned (.bool (Co.truth v))∧Below w.heap.size w w':=by
 cases v with
 |none=>
  unfold vV
  simp only [Option.isSome_none,Option.getD_none]
  have C0:=zh (My.start w)
  obtain⟨A,w5,HX5,HW5,hx5,C5⟩:=C0.out.boxE #[.bool false,.int .i64 0] 43
  go_enter Tryz.func48,Tryz.ntmps48
  go_upto_region 1 with fail
  rw [←HX5.out,←HW5.out]
  clear HX5 HW5 C0
  have q0:=cells2 (C5.out.b 0 rfl)
  go_wp2_with fail
  clear q0
  go_ret
  exact⟨rfl,C5.out.gr.fresh⟩
 |some n=>
  by_cases h:n=0
  ·subst h
   unfold vV
   simp only [Option.isSome_some,Option.getD_some]
   have C0:=zh (My.start w)
   obtain⟨A,w6,HX6,HW6,hx6,C6⟩:=C0.out.boxE #[.bool true,.int .i64 0] 43
   go_enter Tryz.func48,Tryz.ntmps48
   go_upto_region 1 with fail
   rw [←HX6.out,←HW6.out]
   clear HX6 HW6 C0
   have q0:=cells2 (C6.out.b 0 rfl)
   go_wp2_with fail
   clear q0
   go_ret
   exact⟨rfl,C6.out.gr.fresh⟩
  ·have h0:(n != 0)=true:=bne_iff_ne.2 h
   have HR:Hid (Co.truth (some n)=true):=zh h0
   rw [HR.out]
   clear h
   unfold vV
   simp only [Option.isSome_some,Option.getD_some]
   have C0:=zh (My.start w)
   obtain⟨A,w7,HX7,HW7,hx7,C7⟩:=C0.out.boxE #[.bool true,.int .i64 n] 43
   go_enter Tryz.func48,Tryz.ntmps48
   go_upto_region 1 with fail
   rw [←HX7.out,←HW7.out]
   clear HX7 HW7 C0
   have q0:=cells2 (C7.out.b 0 rfl)
   go_wp2_with fail
   clear q0
   go_ret
   exact⟨rfl,C7.out.gr.fresh⟩
def neg0 (v:Co.Val):Co.Val × Nat:=match v with
 |some n=>(some (Co.wrap (-n)),0)
 |none=>(none,7)
set_option maxRecDepth 100000 in
set_option maxHeartbeats 4000000 in
theorem zGG (v:Co.Val) (w:World):
 Calls Tryz.prog 49 #[vV v] w fun e w'=>e= .returned (.tuple #[vV (neg0 v).1,.int .i64 (neg0 v).2])∧Below w.heap.size w w':=by
 cases v with
 |none=>
  unfold neg0
  have HV0:Hid (vV none= .agg #[.bool false,.int .i64 0]):=zh rfl
  rw [HV0.out]
  have C0:=zh (My.start w)
  obtain⟨A,w8,HX8,HW8,hx8,C8⟩:=C0.out.boxE #[.bool false,.int .i64 0] 43
  obtain⟨R,w9,HX9,HW9,hx9,C9⟩:=C8.out.boxE #[.bool false,.int .i64 0] 43
  have HY9:Hid (R=A+1):=zh (by rw [HX9.out,HW8.out,HX8.out];simp)
  go_enter Tryz.func49,Tryz.ntmps49
  go_upto_region 1 with fail
  rw [←HX8.out,←HW8.out,←HY9.out,←HW9.out]
  clear HX8 HW8 C0 HY9 HX9 HW9 C8
  have q1:=cells2 (C9.out.b 1 rfl)
  go_upto_region 2 with fail
  clear q1
  have q0:=cells2 (C9.out.b 0 rfl)
  obtain⟨w10,HW,C10⟩:=C9.out.set2 0 rfl (.bool false) (.int .i64 0)
  dsimp only [List.set] at C10
  go_wp2_with fail
  rw [←HW.out]
  clear HW C9 q0
  exact Mz.retA1 C10.out 0 rfl Tryz.results49 rfl rfl rfl ⟨_,Tryz.underlying43⟩ (by kernel_rfl) ⟨rfl,C10.out.gr.fresh⟩
 |some n=>
  unfold neg0
  have HV1:Hid (∀m:Int,vV (some m)= .agg #[.bool true,.int .i64 m]):=zh (fun _=>rfl)
  simp only []
  rw [HV1.out,HV1.out]
  have KW:Hid (∀w,Calls Tryz.prog 46 #[.int .i64 (wrap64 (-n))] w fun e w'=>e= .returned (.int .i64 (Co.wrap (-n)))∧w'=w):=zh (fun w=>by have h:=zAD (wrap64 (-n)) w;rw [zBA] at h;exact h)
  obtain⟨Z,hZ⟩:∃X,Co.wrap (-n)=X:=⟨_,rfl⟩
  rw [hZ] at KW ⊢
  clear hZ
  have C0:=zh (My.start w)
  obtain⟨A,w11,HX11,HW11,hx11,C11⟩:=C0.out.boxE #[.bool true,.int .i64 n] 43
  obtain⟨R,w12,HX12,HW12,hx12,C12⟩:=C11.out.boxE #[.bool false,.int .i64 0] 43
  have HY12:Hid (R=A+1):=zh (by rw [HX12.out,HW11.out,HX11.out];simp)
  go_enter Tryz.func49,Tryz.ntmps49
  go_upto_region 1 with fail
  rw [←HX11.out,←HW11.out,←HY12.out,←HW12.out]
  clear HX11 HW11 C0 HY12 HX12 HW12 C11
  have q1:=cells2 (C12.out.b 1 rfl)
  go_wp2_with fail
  clear q1
  refine(KW.out _).mono ?_
  rintro e w' ⟨rfl,hww⟩
  rw [hww]
  clear hww w'
  have q0:=cells2 (C12.out.b 0 rfl)
  obtain⟨w13,HW,C13⟩:=C12.out.set2 0 rfl (.bool true) (.int .i64 Z)
  dsimp only [List.set] at C13
  go_wp2_with fail
  rw [←HW.out]
  clear HW C12 q0
  exact Mz.retA1 C13.out 0 rfl Tryz.results49 rfl rfl rfl ⟨_,Tryz.underlying43⟩ (by kernel_rfl) ⟨rfl,C13.out.gr.fresh⟩
set_option maxRecDepth 100000 in
set_option maxHeartbeats 4000000 in
theorem op5_eq (sa:Bool) (na:Int) (w:World):
 Calls Tryz.prog 50 #[.int .i64 5,.agg #[.bool sa,.int .i64 na],.agg #[.bool sa,.int .i64 na]] w fun e w'=>e= .returned (.tuple #[.agg #[.bool true,.int .i64 (Co.bit true)],.int .i64 0])∧Below w.heap.size w w':=by
 have KB:Hid (∀w,Calls Tryz.prog 47 #[.bool (true)] w fun e w'=>e= .returned (.agg #[.bool true,.int .i64 (Co.bit (true))])∧Below w.heap.size w w'):=zh (fun w=>zAG _ w)
 obtain⟨Z,hZ⟩:∃X,Co.bit (true)=X:=⟨_,rfl⟩
 rw [hZ] at KB ⊢
 clear hZ
 have C0:=zh (My.start w)
 obtain⟨A,w14,HX14,HW14,hx14,C14⟩:=C0.out.boxE #[.bool sa,.int .i64 na] 43
 obtain⟨B,w15,HX15,HW15,hx15,C15⟩:=C14.out.boxE #[.bool sa,.int .i64 na] 43
 have HY15:Hid (B=A+1):=zh (by rw [HX15.out,HW14.out,HX14.out];simp)
 obtain⟨R,w16,HX16,HW16,hx16,C16⟩:=C15.out.boxE #[.bool false,.int .i64 0] 43
 have HY16:Hid (R=B+1):=zh (by rw [HX16.out,HW15.out,HX15.out];simp)
 go_enter Tryz.func50,Tryz.ntmps50
 go_upto_region 1 with fail
 rw [←HX14.out,←HW14.out,←HY15.out,←HW15.out,←HY16.out,←HW16.out]
 clear HX14 HW14 C0 HY15 HX15 HW15 C14 HY16 HX16 HW16 C15
 have q2:=cells2 (C16.out.b 2 rfl)
 have q1:=cells2 (C16.out.b 1 rfl)
 go_wp2_with fail
 clear q2 q1
 refine(KB.out _).mono ?_
 rintro e w17 ⟨rfl,hb⟩
 have C18:=zh (C16.out.below hb)
 clear C16
 clear hb
 have q0:=cells2 (C18.out.b 0 rfl)
 obtain⟨w19,HW,C19⟩:=C18.out.set2 0 rfl (.bool true) (.int .i64 Z)
 dsimp only [List.set] at C19
 go_wp2_with fail
 rw [←HW.out]
 clear HW C18 q0
 exact Mz.retA1 C19.out 0 rfl Tryz.results50 rfl rfl rfl ⟨_,Tryz.underlying43⟩ (by kernel_rfl) ⟨rfl,C19.out.gr.fresh⟩
set_option maxRecDepth 100000 in
set_option maxHeartbeats 4000000 in
theorem op5_n1 (sa:Bool) (na nb:Int) (hn:¬na=nb) (w:World):
 Calls Tryz.prog 50 #[.int .i64 5,.agg #[.bool sa,.int .i64 na],.agg #[.bool sa,.int .i64 nb]] w fun e w'=>e= .returned (.tuple #[.agg #[.bool true,.int .i64 (Co.bit false)],.int .i64 0])∧Below w.heap.size w w':=by
 have h0:(na == nb)=false:=beq_eq_false_iff_ne.2 hn
 have KB:Hid (∀w,Calls Tryz.prog 47 #[.bool (false)] w fun e w'=>e= .returned (.agg #[.bool true,.int .i64 (Co.bit (false))])∧Below w.heap.size w w'):=zh (fun w=>zAG _ w)
 obtain⟨Z,hZ⟩:∃X,Co.bit (false)=X:=⟨_,rfl⟩
 rw [hZ] at KB ⊢
 clear hZ
 have C0:=zh (My.start w)
 obtain⟨A,w20,HX20,HW20,hx20,C20⟩:=C0.out.boxE #[.bool sa,.int .i64 na] 43
 obtain⟨B,w21,HX21,HW21,hx21,C21⟩:=C20.out.boxE #[.bool sa,.int .i64 nb] 43
 have HY21:Hid (B=A+1):=zh (by rw [HX21.out,HW20.out,HX20.out];simp)
 obtain⟨R,w22,HX22,HW22,hx22,C22⟩:=C21.out.boxE #[.bool false,.int .i64 0] 43
 have HY22:Hid (R=B+1):=zh (by rw [HX22.out,HW21.out,HX21.out];simp)
 go_enter Tryz.func50,Tryz.ntmps50
 go_upto_region 1 with fail
 rw [←HX20.out,←HW20.out,←HY21.out,←HW21.out,←HY22.out,←HW22.out]
 clear HX20 HW20 C0 HY21 HX21 HW21 C20 HY22 HX22 HW22 C21
 have q2:=cells2 (C22.out.b 2 rfl)
 have q1:=cells2 (C22.out.b 1 rfl)
 go_wp2_with fail
 clear q2 q1
 refine(KB.out _).mono ?_
 rintro e w23 ⟨rfl,hb⟩
 have C24:=zh (C22.out.below hb)
 clear C22
 clear hb
 have q0:=cells2 (C24.out.b 0 rfl)
 obtain⟨w25,HW,C25⟩:=C24.out.set2 0 rfl (.bool true) (.int .i64 Z)
 dsimp only [List.set] at C25
 go_wp2_with fail
 rw [←HW.out]
 clear HW C24 q0
 exact Mz.retA1 C25.out 0 rfl Tryz.results50 rfl rfl rfl ⟨_,Tryz.underlying43⟩ (by kernel_rfl) ⟨rfl,C25.out.gr.fresh⟩
set_option maxRecDepth 100000 in
set_option maxHeartbeats 4000000 in
theorem op5_n2 (sa sb:Bool) (na nb:Int) (hs:¬sa=sb) (w:World):
 Calls Tryz.prog 50 #[.int .i64 5,.agg #[.bool sa,.int .i64 na],.agg #[.bool sb,.int .i64 nb]] w fun e w'=>e= .returned (.tuple #[.agg #[.bool true,.int .i64 (Co.bit false)],.int .i64 0])∧Below w.heap.size w w':=by
 have h0:(sa == sb)=false:=beq_eq_false_iff_ne.2 hs
 have KB:Hid (∀w,Calls Tryz.prog 47 #[.bool (false)] w fun e w'=>e= .returned (.agg #[.bool true,.int .i64 (Co.bit (false))])∧Below w.heap.size w w'):=zh (fun w=>zAG _ w)
 obtain⟨Z,hZ⟩:∃X,Co.bit (false)=X:=⟨_,rfl⟩
 rw [hZ] at KB ⊢
 clear hZ
 have C0:=zh (My.start w)
 obtain⟨A,w26,HX26,HW26,hx26,C26⟩:=C0.out.boxE #[.bool sa,.int .i64 na] 43
 obtain⟨B,w27,HX27,HW27,hx27,C27⟩:=C26.out.boxE #[.bool sb,.int .i64 nb] 43
 have HY27:Hid (B=A+1):=zh (by rw [HX27.out,HW26.out,HX26.out];simp)
 obtain⟨R,w28,HX28,HW28,hx28,C28⟩:=C27.out.boxE #[.bool false,.int .i64 0] 43
 have HY28:Hid (R=B+1):=zh (by rw [HX28.out,HW27.out,HX27.out];simp)
 go_enter Tryz.func50,Tryz.ntmps50
 go_upto_region 1 with fail
 rw [←HX26.out,←HW26.out,←HY27.out,←HW27.out,←HY28.out,←HW28.out]
 clear HX26 HW26 C0 HY27 HX27 HW27 C26 HY28 HX28 HW28 C27
 have q2:=cells2 (C28.out.b 2 rfl)
 have q1:=cells2 (C28.out.b 1 rfl)
 go_wp2_with fail
 clear q2 q1
 refine(KB.out _).mono ?_
 rintro e w29 ⟨rfl,hb⟩
 have C30:=zh (C28.out.below hb)
 clear C28
 clear hb
 have q0:=cells2 (C30.out.b 0 rfl)
 obtain⟨w31,HW,C31⟩:=C30.out.set2 0 rfl (.bool true) (.int .i64 Z)
 dsimp only [List.set] at C31
 go_wp2_with fail
 rw [←HW.out]
 clear HW C30 q0
 exact Mz.retA1 C31.out 0 rfl Tryz.results50 rfl rfl rfl ⟨_,Tryz.underlying43⟩ (by kernel_rfl) ⟨rfl,C31.out.gr.fresh⟩
set_option maxRecDepth 100000 in
set_option maxHeartbeats 4000000 in
theorem op6_eq (sa:Bool) (na:Int) (w:World):
 Calls Tryz.prog 50 #[.int .i64 6,.agg #[.bool sa,.int .i64 na],.agg #[.bool sa,.int .i64 na]] w fun e w'=>e= .returned (.tuple #[.agg #[.bool true,.int .i64 (Co.bit false)],.int .i64 0])∧Below w.heap.size w w':=by
 have KB:Hid (∀w,Calls Tryz.prog 47 #[.bool (false)] w fun e w'=>e= .returned (.agg #[.bool true,.int .i64 (Co.bit (false))])∧Below w.heap.size w w'):=zh (fun w=>zAG _ w)
 obtain⟨Z,hZ⟩:∃X,Co.bit (false)=X:=⟨_,rfl⟩
 rw [hZ] at KB ⊢
 clear hZ
 have C0:=zh (My.start w)
 obtain⟨A,w32,HX32,HW32,hx32,C32⟩:=C0.out.boxE #[.bool sa,.int .i64 na] 43
 obtain⟨B,w33,HX33,HW33,hx33,C33⟩:=C32.out.boxE #[.bool sa,.int .i64 na] 43
 have HY33:Hid (B=A+1):=zh (by rw [HX33.out,HW32.out,HX32.out];simp)
 obtain⟨R,w34,HX34,HW34,hx34,C34⟩:=C33.out.boxE #[.bool false,.int .i64 0] 43
 have HY34:Hid (R=B+1):=zh (by rw [HX34.out,HW33.out,HX33.out];simp)
 go_enter Tryz.func50,Tryz.ntmps50
 go_upto_region 1 with fail
 rw [←HX32.out,←HW32.out,←HY33.out,←HW33.out,←HY34.out,←HW34.out]
 clear HX32 HW32 C0 HY33 HX33 HW33 C32 HY34 HX34 HW34 C33
 have q2:=cells2 (C34.out.b 2 rfl)
 have q1:=cells2 (C34.out.b 1 rfl)
 go_wp2_with fail
 clear q2 q1
 refine(KB.out _).mono ?_
 rintro e w35 ⟨rfl,hb⟩
 have C36:=zh (C34.out.below hb)
 clear C34
 clear hb
 have q0:=cells2 (C36.out.b 0 rfl)
 obtain⟨w37,HW,C37⟩:=C36.out.set2 0 rfl (.bool true) (.int .i64 Z)
 dsimp only [List.set] at C37
 go_wp2_with fail
 rw [←HW.out]
 clear HW C36 q0
 exact Mz.retA1 C37.out 0 rfl Tryz.results50 rfl rfl rfl ⟨_,Tryz.underlying43⟩ (by kernel_rfl) ⟨rfl,C37.out.gr.fresh⟩
set_option maxRecDepth 100000 in
set_option maxHeartbeats 4000000 in
theorem op6_n1 (sa:Bool) (na nb:Int) (hn:¬na=nb) (w:World):
 Calls Tryz.prog 50 #[.int .i64 6,.agg #[.bool sa,.int .i64 na],.agg #[.bool sa,.int .i64 nb]] w fun e w'=>e= .returned (.tuple #[.agg #[.bool true,.int .i64 (Co.bit true)],.int .i64 0])∧Below w.heap.size w w':=by
 have h0:(na == nb)=false:=beq_eq_false_iff_ne.2 hn
 have KB:Hid (∀w,Calls Tryz.prog 47 #[.bool (true)] w fun e w'=>e= .returned (.agg #[.bool true,.int .i64 (Co.bit (true))])∧Below w.heap.size w w'):=zh (fun w=>zAG _ w)
 obtain⟨Z,hZ⟩:∃X,Co.bit (true)=X:=⟨_,rfl⟩
 rw [hZ] at KB ⊢
 clear hZ
 have C0:=zh (My.start w)
 obtain⟨A,w38,HX38,HW38,hx38,C38⟩:=C0.out.boxE #[.bool sa,.int .i64 na] 43
 obtain⟨B,w39,HX39,HW39,hx39,C39⟩:=C38.out.boxE #[.bool sa,.int .i64 nb] 43
 have HY39:Hid (B=A+1):=zh (by rw [HX39.out,HW38.out,HX38.out];simp)
 obtain⟨R,w40,HX40,HW40,hx40,C40⟩:=C39.out.boxE #[.bool false,.int .i64 0] 43
 have HY40:Hid (R=B+1):=zh (by rw [HX40.out,HW39.out,HX39.out];simp)
 go_enter Tryz.func50,Tryz.ntmps50
 go_upto_region 1 with fail
 rw [←HX38.out,←HW38.out,←HY39.out,←HW39.out,←HY40.out,←HW40.out]
 clear HX38 HW38 C0 HY39 HX39 HW39 C38 HY40 HX40 HW40 C39
 have q2:=cells2 (C40.out.b 2 rfl)
 have q1:=cells2 (C40.out.b 1 rfl)
 go_wp2_with fail
 clear q2 q1
 refine(KB.out _).mono ?_
 rintro e w41 ⟨rfl,hb⟩
 have C42:=zh (C40.out.below hb)
 clear C40
 clear hb
 have q0:=cells2 (C42.out.b 0 rfl)
 obtain⟨w43,HW,C43⟩:=C42.out.set2 0 rfl (.bool true) (.int .i64 Z)
 dsimp only [List.set] at C43
 go_wp2_with fail
 rw [←HW.out]
 clear HW C42 q0
 exact Mz.retA1 C43.out 0 rfl Tryz.results50 rfl rfl rfl ⟨_,Tryz.underlying43⟩ (by kernel_rfl) ⟨rfl,C43.out.gr.fresh⟩
set_option maxRecDepth 100000 in
set_option maxHeartbeats 4000000 in
theorem op6_n2 (sa sb:Bool) (na nb:Int) (hs:¬sa=sb) (w:World):
 Calls Tryz.prog 50 #[.int .i64 6,.agg #[.bool sa,.int .i64 na],.agg #[.bool sb,.int .i64 nb]] w fun e w'=>e= .returned (.tuple #[.agg #[.bool true,.int .i64 (Co.bit true)],.int .i64 0])∧Below w.heap.size w w':=by
 have h0:(sa == sb)=false:=beq_eq_false_iff_ne.2 hs
 have KB:Hid (∀w,Calls Tryz.prog 47 #[.bool (true)] w fun e w'=>e= .returned (.agg #[.bool true,.int .i64 (Co.bit (true))])∧Below w.heap.size w w'):=zh (fun w=>zAG _ w)
 obtain⟨Z,hZ⟩:∃X,Co.bit (true)=X:=⟨_,rfl⟩
 rw [hZ] at KB ⊢
 clear hZ
 have C0:=zh (My.start w)
 obtain⟨A,w44,HX44,HW44,hx44,C44⟩:=C0.out.boxE #[.bool sa,.int .i64 na] 43
 obtain⟨B,w45,HX45,HW45,hx45,C45⟩:=C44.out.boxE #[.bool sb,.int .i64 nb] 43
 have HY45:Hid (B=A+1):=zh (by rw [HX45.out,HW44.out,HX44.out];simp)
 obtain⟨R,w46,HX46,HW46,hx46,C46⟩:=C45.out.boxE #[.bool false,.int .i64 0] 43
 have HY46:Hid (R=B+1):=zh (by rw [HX46.out,HW45.out,HX45.out];simp)
 go_enter Tryz.func50,Tryz.ntmps50
 go_upto_region 1 with fail
 rw [←HX44.out,←HW44.out,←HY45.out,←HW45.out,←HY46.out,←HW46.out]
 clear HX44 HW44 C0 HY45 HX45 HW45 C44 HY46 HX46 HW46 C45
 have q2:=cells2 (C46.out.b 2 rfl)
 have q1:=cells2 (C46.out.b 1 rfl)
 go_wp2_with fail
 clear q2 q1
 refine(KB.out _).mono ?_
 rintro e w47 ⟨rfl,hb⟩
 have C48:=zh (C46.out.below hb)
 clear C46
 clear hb
 have q0:=cells2 (C48.out.b 0 rfl)
 obtain⟨w49,HW,C49⟩:=C48.out.set2 0 rfl (.bool true) (.int .i64 Z)
 dsimp only [List.set] at C49
 go_wp2_with fail
 rw [←HW.out]
 clear HW C48 q0
 exact Mz.retA1 C49.out 0 rfl Tryz.results50 rfl rfl rfl ⟨_,Tryz.underlying43⟩ (by kernel_rfl) ⟨rfl,C49.out.gr.fresh⟩
set_option maxRecDepth 100000 in
set_option maxHeartbeats 4000000 in
theorem opX_ns (o:Int) (sb:Bool) (nb:Int) (ho5:o≠5) (ho6:o≠6) (w:World):
 Calls Tryz.prog 50 #[.int .i64 o,.agg #[.bool false,.int .i64 0],.agg #[.bool sb,.int .i64 nb]] w fun e w'=>e= .returned (.tuple #[.agg #[.bool false,.int .i64 0],.int .i64 7])∧Below w.heap.size w w':=by
 have h5:(o == 5)=false:=beq_eq_false_iff_ne.2 ho5
 have h6:(o == 6)=false:=beq_eq_false_iff_ne.2 ho6
 clear ho5 ho6
 have C0:=zh (My.start w)
 obtain⟨A,w50,HX50,HW50,hx50,C50⟩:=C0.out.boxE #[.bool false,.int .i64 0] 43
 obtain⟨B,w51,HX51,HW51,hx51,C51⟩:=C50.out.boxE #[.bool sb,.int .i64 nb] 43
 have HY51:Hid (B=A+1):=zh (by rw [HX51.out,HW50.out,HX50.out];simp)
 obtain⟨R,w52,HX52,HW52,hx52,C52⟩:=C51.out.boxE #[.bool false,.int .i64 0] 43
 have HY52:Hid (R=B+1):=zh (by rw [HX52.out,HW51.out,HX51.out];simp)
 go_enter Tryz.func50,Tryz.ntmps50
 go_upto_region 1 with fail
 rw [←HX50.out,←HW50.out,←HY51.out,←HW51.out,←HY52.out,←HW52.out]
 clear HX50 HW50 C0 HY51 HX51 HW51 C50 HY52 HX52 HW52 C51
 have q2:=cells2 (C52.out.b 2 rfl)
 have q1:=cells2 (C52.out.b 1 rfl)
 go_upto_region 6 with fail
 clear q2 q1
 have q0:=cells2 (C52.out.b 0 rfl)
 obtain⟨w53,HW,C53⟩:=C52.out.set2 0 rfl (.bool false) (.int .i64 0)
 dsimp only [List.set] at C53
 go_wp2_with fail
 rw [←HW.out]
 clear HW C52 q0
 exact Mz.retA1 C53.out 0 rfl Tryz.results50 rfl rfl rfl ⟨_,Tryz.underlying43⟩ (by kernel_rfl) ⟨rfl,C53.out.gr.fresh⟩
set_option maxRecDepth 100000 in
set_option maxHeartbeats 4000000 in
theorem opX_an (o:Int) (x:Int) (ho5:o≠5) (ho6:o≠6) (w:World):
 Calls Tryz.prog 50 #[.int .i64 o,.agg #[.bool true,.int .i64 x],.agg #[.bool false,.int .i64 0]] w fun e w'=>e= .returned (.tuple #[.agg #[.bool false,.int .i64 0],.int .i64 7])∧Below w.heap.size w w':=by
 have h5:(o == 5)=false:=beq_eq_false_iff_ne.2 ho5
 have h6:(o == 6)=false:=beq_eq_false_iff_ne.2 ho6
 clear ho5 ho6
 have C0:=zh (My.start w)
 obtain⟨A,w54,HX54,HW54,hx54,C54⟩:=C0.out.boxE #[.bool true,.int .i64 x] 43
 obtain⟨B,w55,HX55,HW55,hx55,C55⟩:=C54.out.boxE #[.bool false,.int .i64 0] 43
 have HY55:Hid (B=A+1):=zh (by rw [HX55.out,HW54.out,HX54.out];simp)
 obtain⟨R,w56,HX56,HW56,hx56,C56⟩:=C55.out.boxE #[.bool false,.int .i64 0] 43
 have HY56:Hid (R=B+1):=zh (by rw [HX56.out,HW55.out,HX55.out];simp)
 go_enter Tryz.func50,Tryz.ntmps50
 go_upto_region 1 with fail
 rw [←HX54.out,←HW54.out,←HY55.out,←HW55.out,←HY56.out,←HW56.out]
 clear HX54 HW54 C0 HY55 HX55 HW55 C54 HY56 HX56 HW56 C55
 have q2:=cells2 (C56.out.b 2 rfl)
 have q1:=cells2 (C56.out.b 1 rfl)
 go_upto_region 6 with fail
 clear q2 q1
 have q0:=cells2 (C56.out.b 0 rfl)
 obtain⟨w57,HW,C57⟩:=C56.out.set2 0 rfl (.bool false) (.int .i64 0)
 dsimp only [List.set] at C57
 go_wp2_with fail
 rw [←HW.out]
 clear HW C56 q0
 exact Mz.retA1 C57.out 0 rfl Tryz.results50 rfl rfl rfl ⟨_,Tryz.underlying43⟩ (by kernel_rfl) ⟨rfl,C57.out.gr.fresh⟩
set_option maxRecDepth 100000 in
set_option maxHeartbeats 4000000 in
theorem op0_L (x y:Int) (w:World):
 Calls Tryz.prog 50 #[.int .i64 0,.agg #[.bool true,.int .i64 x],.agg #[.bool true,.int .i64 y]] w fun e w'=>e= .returned (.tuple #[.agg #[.bool true,.int .i64 (Co.wrap (x+y))],.int .i64 0])∧Below w.heap.size w w':=by
 have KW:Hid (∀w,Calls Tryz.prog 46 #[.int .i64 (wrap64 (x+y))] w fun e w'=>e= .returned (.int .i64 (Co.wrap (x+y)))∧w'=w):=zh (fun w=>by have h:=zAD (wrap64 (x+y)) w;rw [zBA] at h;exact h)
 obtain⟨Z,hZ⟩:∃X,Co.wrap (x+y)=X:=⟨_,rfl⟩
 rw [hZ] at KW ⊢
 clear hZ
 have C0:=zh (My.start w)
 obtain⟨A,w58,HX58,HW58,hx58,C58⟩:=C0.out.boxE #[.bool true,.int .i64 x] 43
 obtain⟨B,w59,HX59,HW59,hx59,C59⟩:=C58.out.boxE #[.bool true,.int .i64 y] 43
 have HY59:Hid (B=A+1):=zh (by rw [HX59.out,HW58.out,HX58.out];simp)
 obtain⟨R,w60,HX60,HW60,hx60,C60⟩:=C59.out.boxE #[.bool false,.int .i64 0] 43
 have HY60:Hid (R=B+1):=zh (by rw [HX60.out,HW59.out,HX59.out];simp)
 go_enter Tryz.func50,Tryz.ntmps50
 go_upto_region 1 with fail
 rw [←HX58.out,←HW58.out,←HY59.out,←HW59.out,←HY60.out,←HW60.out]
 clear HX58 HW58 C0 HY59 HX59 HW59 C58 HY60 HX60 HW60 C59
 have q2:=cells2 (C60.out.b 2 rfl)
 have q1:=cells2 (C60.out.b 1 rfl)
 go_wp2_with fail
 clear q2 q1
 refine(KW.out _).mono ?_
 rintro e w' ⟨rfl,hww⟩
 rw [hww]
 clear hww w'
 have q0:=cells2 (C60.out.b 0 rfl)
 obtain⟨w61,HW,C61⟩:=C60.out.set2 0 rfl (.bool true) (.int .i64 Z)
 dsimp only [List.set] at C61
 go_wp2_with fail
 rw [←HW.out]
 clear HW C60 q0
 exact Mz.retA1 C61.out 0 rfl Tryz.results50 rfl rfl rfl ⟨_,Tryz.underlying43⟩ (by kernel_rfl) ⟨rfl,C61.out.gr.fresh⟩
set_option maxRecDepth 100000 in
set_option maxHeartbeats 4000000 in
theorem op1_L (x y:Int) (w:World):
 Calls Tryz.prog 50 #[.int .i64 1,.agg #[.bool true,.int .i64 x],.agg #[.bool true,.int .i64 y]] w fun e w'=>e= .returned (.tuple #[.agg #[.bool true,.int .i64 (Co.wrap (x -y))],.int .i64 0])∧Below w.heap.size w w':=by
 have KW:Hid (∀w,Calls Tryz.prog 46 #[.int .i64 (wrap64 (x -y))] w fun e w'=>e= .returned (.int .i64 (Co.wrap (x -y)))∧w'=w):=zh (fun w=>by have h:=zAD (wrap64 (x -y)) w;rw [zBA] at h;exact h)
 obtain⟨Z,hZ⟩:∃X,Co.wrap (x -y)=X:=⟨_,rfl⟩
 rw [hZ] at KW ⊢
 clear hZ
 have C0:=zh (My.start w)
 obtain⟨A,w62,HX62,HW62,hx62,C62⟩:=C0.out.boxE #[.bool true,.int .i64 x] 43
 obtain⟨B,w63,HX63,HW63,hx63,C63⟩:=C62.out.boxE #[.bool true,.int .i64 y] 43
 have HY63:Hid (B=A+1):=zh (by rw [HX63.out,HW62.out,HX62.out];simp)
 obtain⟨R,w64,HX64,HW64,hx64,C64⟩:=C63.out.boxE #[.bool false,.int .i64 0] 43
 have HY64:Hid (R=B+1):=zh (by rw [HX64.out,HW63.out,HX63.out];simp)
 go_enter Tryz.func50,Tryz.ntmps50
 go_upto_region 1 with fail
 rw [←HX62.out,←HW62.out,←HY63.out,←HW63.out,←HY64.out,←HW64.out]
 clear HX62 HW62 C0 HY63 HX63 HW63 C62 HY64 HX64 HW64 C63
 have q2:=cells2 (C64.out.b 2 rfl)
 have q1:=cells2 (C64.out.b 1 rfl)
 go_wp2_with fail
 clear q2 q1
 refine(KW.out _).mono ?_
 rintro e w' ⟨rfl,hww⟩
 rw [hww]
 clear hww w'
 have q0:=cells2 (C64.out.b 0 rfl)
 obtain⟨w65,HW,C65⟩:=C64.out.set2 0 rfl (.bool true) (.int .i64 Z)
 dsimp only [List.set] at C65
 go_wp2_with fail
 rw [←HW.out]
 clear HW C64 q0
 exact Mz.retA1 C65.out 0 rfl Tryz.results50 rfl rfl rfl ⟨_,Tryz.underlying43⟩ (by kernel_rfl) ⟨rfl,C65.out.gr.fresh⟩
set_option maxRecDepth 100000 in
set_option maxHeartbeats 4000000 in
theorem op2_L (x y:Int) (w:World):
 Calls Tryz.prog 50 #[.int .i64 2,.agg #[.bool true,.int .i64 x],.agg #[.bool true,.int .i64 y]] w fun e w'=>e= .returned (.tuple #[.agg #[.bool true,.int .i64 (Co.wrap (x*y))],.int .i64 0])∧Below w.heap.size w w':=by
 have KW:Hid (∀w,Calls Tryz.prog 46 #[.int .i64 (wrap64 (x*y))] w fun e w'=>e= .returned (.int .i64 (Co.wrap (x*y)))∧w'=w):=zh (fun w=>by have h:=zAD (wrap64 (x*y)) w;rw [zBA] at h;exact h)
 obtain⟨Z,hZ⟩:∃X,Co.wrap (x*y)=X:=⟨_,rfl⟩
 rw [hZ] at KW ⊢
 clear hZ
 have C0:=zh (My.start w)
 obtain⟨A,w66,HX66,HW66,hx66,C66⟩:=C0.out.boxE #[.bool true,.int .i64 x] 43
 obtain⟨B,w67,HX67,HW67,hx67,C67⟩:=C66.out.boxE #[.bool true,.int .i64 y] 43
 have HY67:Hid (B=A+1):=zh (by rw [HX67.out,HW66.out,HX66.out];simp)
 obtain⟨R,w68,HX68,HW68,hx68,C68⟩:=C67.out.boxE #[.bool false,.int .i64 0] 43
 have HY68:Hid (R=B+1):=zh (by rw [HX68.out,HW67.out,HX67.out];simp)
 go_enter Tryz.func50,Tryz.ntmps50
 go_upto_region 1 with fail
 rw [←HX66.out,←HW66.out,←HY67.out,←HW67.out,←HY68.out,←HW68.out]
 clear HX66 HW66 C0 HY67 HX67 HW67 C66 HY68 HX68 HW68 C67
 have q2:=cells2 (C68.out.b 2 rfl)
 have q1:=cells2 (C68.out.b 1 rfl)
 go_wp2_with fail
 clear q2 q1
 refine(KW.out _).mono ?_
 rintro e w' ⟨rfl,hww⟩
 rw [hww]
 clear hww w'
 have q0:=cells2 (C68.out.b 0 rfl)
 obtain⟨w69,HW,C69⟩:=C68.out.set2 0 rfl (.bool true) (.int .i64 Z)
 dsimp only [List.set] at C69
 go_wp2_with fail
 rw [←HW.out]
 clear HW C68 q0
 exact Mz.retA1 C69.out 0 rfl Tryz.results50 rfl rfl rfl ⟨_,Tryz.underlying43⟩ (by kernel_rfl) ⟨rfl,C69.out.gr.fresh⟩
set_option maxRecDepth 100000 in
set_option maxHeartbeats 4000000 in
theorem op3_0 (x:Int) (w:World):
 Calls Tryz.prog 50 #[.int .i64 3,.agg #[.bool true,.int .i64 x],.agg #[.bool true,.int .i64 0]] w fun e w'=>e= .returned (.tuple #[.agg #[.bool false,.int .i64 0],.int .i64 2])∧Below w.heap.size w w':=by
 have C0:=zh (My.start w)
 obtain⟨A,w70,HX70,HW70,hx70,C70⟩:=C0.out.boxE #[.bool true,.int .i64 x] 43
 obtain⟨B,w71,HX71,HW71,hx71,C71⟩:=C70.out.boxE #[.bool true,.int .i64 0] 43
 have HY71:Hid (B=A+1):=zh (by rw [HX71.out,HW70.out,HX70.out];simp)
 obtain⟨R,w72,HX72,HW72,hx72,C72⟩:=C71.out.boxE #[.bool false,.int .i64 0] 43
 have HY72:Hid (R=B+1):=zh (by rw [HX72.out,HW71.out,HX71.out];simp)
 go_enter Tryz.func50,Tryz.ntmps50
 go_upto_region 1 with fail
 rw [←HX70.out,←HW70.out,←HY71.out,←HW71.out,←HY72.out,←HW72.out]
 clear HX70 HW70 C0 HY71 HX71 HW71 C70 HY72 HX72 HW72 C71
 have q2:=cells2 (C72.out.b 2 rfl)
 have q1:=cells2 (C72.out.b 1 rfl)
 go_upto_region 18 with fail
 clear q2 q1
 have q0:=cells2 (C72.out.b 0 rfl)
 obtain⟨w73,HW,C73⟩:=C72.out.set2 0 rfl (.bool false) (.int .i64 0)
 dsimp only [List.set] at C73
 go_wp2_with fail
 rw [←HW.out]
 clear HW C72 q0
 exact Mz.retA1 C73.out 0 rfl Tryz.results50 rfl rfl rfl ⟨_,Tryz.underlying43⟩ (by kernel_rfl) ⟨rfl,C73.out.gr.fresh⟩
set_option maxRecDepth 100000 in
set_option maxHeartbeats 4000000 in
theorem op3_L (x y:Int) (hy:y≠0) (w:World):
 Calls Tryz.prog 50 #[.int .i64 3,.agg #[.bool true,.int .i64 x],.agg #[.bool true,.int .i64 y]] w fun e w'=>e= .returned (.tuple #[.agg #[.bool true,.int .i64 (Co.wrap (x.tdiv y))],.int .i64 0])∧Below w.heap.size w w':=by
 have h0:(y == 0)=false:=beq_eq_false_iff_ne.2 hy
 have KW:Hid (∀w,Calls Tryz.prog 46 #[.int .i64 (wrap64 (x.tdiv y))] w fun e w'=>e= .returned (.int .i64 (Co.wrap (x.tdiv y)))∧w'=w):=zh (fun w=>by have h:=zAD (wrap64 (x.tdiv y)) w;rw [zBA] at h;exact h)
 obtain⟨Z,hZ⟩:∃X,Co.wrap (x.tdiv y)=X:=⟨_,rfl⟩
 rw [hZ] at KW ⊢
 clear hZ
 have C0:=zh (My.start w)
 obtain⟨A,w74,HX74,HW74,hx74,C74⟩:=C0.out.boxE #[.bool true,.int .i64 x] 43
 obtain⟨B,w75,HX75,HW75,hx75,C75⟩:=C74.out.boxE #[.bool true,.int .i64 y] 43
 have HY75:Hid (B=A+1):=zh (by rw [HX75.out,HW74.out,HX74.out];simp)
 obtain⟨R,w76,HX76,HW76,hx76,C76⟩:=C75.out.boxE #[.bool false,.int .i64 0] 43
 have HY76:Hid (R=B+1):=zh (by rw [HX76.out,HW75.out,HX75.out];simp)
 go_enter Tryz.func50,Tryz.ntmps50
 go_upto_region 1 with fail
 rw [←HX74.out,←HW74.out,←HY75.out,←HW75.out,←HY76.out,←HW76.out]
 clear HX74 HW74 C0 HY75 HX75 HW75 C74 HY76 HX76 HW76 C75
 have q2:=cells2 (C76.out.b 2 rfl)
 have q1:=cells2 (C76.out.b 1 rfl)
 go_wp2_with fail
 clear q2 q1
 refine(KW.out _).mono ?_
 rintro e w' ⟨rfl,hww⟩
 rw [hww]
 clear hww w'
 have q0:=cells2 (C76.out.b 0 rfl)
 obtain⟨w77,HW,C77⟩:=C76.out.set2 0 rfl (.bool true) (.int .i64 Z)
 dsimp only [List.set] at C77
 go_wp2_with fail
 rw [←HW.out]
 clear HW C76 q0
 exact Mz.retA1 C77.out 0 rfl Tryz.results50 rfl rfl rfl ⟨_,Tryz.underlying43⟩ (by kernel_rfl) ⟨rfl,C77.out.gr.fresh⟩
set_option maxRecDepth 100000 in
set_option maxHeartbeats 4000000 in
theorem op4_0 (x:Int) (w:World):
 Calls Tryz.prog 50 #[.int .i64 4,.agg #[.bool true,.int .i64 x],.agg #[.bool true,.int .i64 0]] w fun e w'=>e= .returned (.tuple #[.agg #[.bool false,.int .i64 0],.int .i64 2])∧Below w.heap.size w w':=by
 have C0:=zh (My.start w)
 obtain⟨A,w78,HX78,HW78,hx78,C78⟩:=C0.out.boxE #[.bool true,.int .i64 x] 43
 obtain⟨B,w79,HX79,HW79,hx79,C79⟩:=C78.out.boxE #[.bool true,.int .i64 0] 43
 have HY79:Hid (B=A+1):=zh (by rw [HX79.out,HW78.out,HX78.out];simp)
 obtain⟨R,w80,HX80,HW80,hx80,C80⟩:=C79.out.boxE #[.bool false,.int .i64 0] 43
 have HY80:Hid (R=B+1):=zh (by rw [HX80.out,HW79.out,HX79.out];simp)
 go_enter Tryz.func50,Tryz.ntmps50
 go_upto_region 1 with fail
 rw [←HX78.out,←HW78.out,←HY79.out,←HW79.out,←HY80.out,←HW80.out]
 clear HX78 HW78 C0 HY79 HX79 HW79 C78 HY80 HX80 HW80 C79
 have q2:=cells2 (C80.out.b 2 rfl)
 have q1:=cells2 (C80.out.b 1 rfl)
 go_upto_region 18 with fail
 clear q2 q1
 have q0:=cells2 (C80.out.b 0 rfl)
 obtain⟨w81,HW,C81⟩:=C80.out.set2 0 rfl (.bool false) (.int .i64 0)
 dsimp only [List.set] at C81
 go_wp2_with fail
 rw [←HW.out]
 clear HW C80 q0
 exact Mz.retA1 C81.out 0 rfl Tryz.results50 rfl rfl rfl ⟨_,Tryz.underlying43⟩ (by kernel_rfl) ⟨rfl,C81.out.gr.fresh⟩
set_option maxRecDepth 100000 in
set_option maxHeartbeats 4000000 in
theorem op4_L (x y:Int) (hy:y≠0) (w:World):
 Calls Tryz.prog 50 #[.int .i64 4,.agg #[.bool true,.int .i64 x],.agg #[.bool true,.int .i64 y]] w fun e w'=>e= .returned (.tuple #[.agg #[.bool true,.int .i64 (Co.wrap (x.tmod y))],.int .i64 0])∧Below w.heap.size w w':=by
 have h0:(y == 0)=false:=beq_eq_false_iff_ne.2 hy
 have KW:Hid (∀w,Calls Tryz.prog 46 #[.int .i64 (x.tmod y)] w fun e w'=>e= .returned (.int .i64 (Co.wrap (x.tmod y)))∧w'=w):=zh (fun w=>zAD _ w)
 obtain⟨Z,hZ⟩:∃X,Co.wrap (x.tmod y)=X:=⟨_,rfl⟩
 rw [hZ] at KW ⊢
 clear hZ
 have C0:=zh (My.start w)
 obtain⟨A,w82,HX82,HW82,hx82,C82⟩:=C0.out.boxE #[.bool true,.int .i64 x] 43
 obtain⟨B,w83,HX83,HW83,hx83,C83⟩:=C82.out.boxE #[.bool true,.int .i64 y] 43
 have HY83:Hid (B=A+1):=zh (by rw [HX83.out,HW82.out,HX82.out];simp)
 obtain⟨R,w84,HX84,HW84,hx84,C84⟩:=C83.out.boxE #[.bool false,.int .i64 0] 43
 have HY84:Hid (R=B+1):=zh (by rw [HX84.out,HW83.out,HX83.out];simp)
 go_enter Tryz.func50,Tryz.ntmps50
 go_upto_region 1 with fail
 rw [←HX82.out,←HW82.out,←HY83.out,←HW83.out,←HY84.out,←HW84.out]
 clear HX82 HW82 C0 HY83 HX83 HW83 C82 HY84 HX84 HW84 C83
 have q2:=cells2 (C84.out.b 2 rfl)
 have q1:=cells2 (C84.out.b 1 rfl)
 go_wp2_with fail
 clear q2 q1
 refine(KW.out _).mono ?_
 rintro e w' ⟨rfl,hww⟩
 rw [hww]
 clear hww w'
 have q0:=cells2 (C84.out.b 0 rfl)
 obtain⟨w85,HW,C85⟩:=C84.out.set2 0 rfl (.bool true) (.int .i64 Z)
 dsimp only [List.set] at C85
 go_wp2_with fail
 rw [←HW.out]
 clear HW C84 q0
 exact Mz.retA1 C85.out 0 rfl Tryz.results50 rfl rfl rfl ⟨_,Tryz.underlying43⟩ (by kernel_rfl) ⟨rfl,C85.out.gr.fresh⟩
set_option maxRecDepth 100000 in
set_option maxHeartbeats 4000000 in
theorem op7_L (x y:Int) (w:World):
 Calls Tryz.prog 50 #[.int .i64 7,.agg #[.bool true,.int .i64 x],.agg #[.bool true,.int .i64 y]] w fun e w'=>e= .returned (.tuple #[.agg #[.bool true,.int .i64 (Co.bit (decide (x<y)))],.int .i64 0])∧Below w.heap.size w w':=by
 have KB:Hid (∀w,Calls Tryz.prog 47 #[.bool (decide (x<y))] w fun e w'=>e= .returned (.agg #[.bool true,.int .i64 (Co.bit (decide (x<y)))])∧Below w.heap.size w w'):=zh (fun w=>zAG _ w)
 obtain⟨Z,hZ⟩:∃X,Co.bit (decide (x<y))=X:=⟨_,rfl⟩
 rw [hZ] at KB ⊢
 clear hZ
 have C0:=zh (My.start w)
 obtain⟨A,w86,HX86,HW86,hx86,C86⟩:=C0.out.boxE #[.bool true,.int .i64 x] 43
 obtain⟨B,w87,HX87,HW87,hx87,C87⟩:=C86.out.boxE #[.bool true,.int .i64 y] 43
 have HY87:Hid (B=A+1):=zh (by rw [HX87.out,HW86.out,HX86.out];simp)
 obtain⟨R,w88,HX88,HW88,hx88,C88⟩:=C87.out.boxE #[.bool false,.int .i64 0] 43
 have HY88:Hid (R=B+1):=zh (by rw [HX88.out,HW87.out,HX87.out];simp)
 go_enter Tryz.func50,Tryz.ntmps50
 go_upto_region 1 with fail
 rw [←HX86.out,←HW86.out,←HY87.out,←HW87.out,←HY88.out,←HW88.out]
 clear HX86 HW86 C0 HY87 HX87 HW87 C86 HY88 HX88 HW88 C87
 have q2:=cells2 (C88.out.b 2 rfl)
 have q1:=cells2 (C88.out.b 1 rfl)
 go_wp2_with fail
 clear q2 q1
 refine(KB.out _).mono ?_
 rintro e w89 ⟨rfl,hb⟩
 have C90:=zh (C88.out.below hb)
 clear C88
 clear hb
 have q0:=cells2 (C90.out.b 0 rfl)
 obtain⟨w91,HW,C91⟩:=C90.out.set2 0 rfl (.bool true) (.int .i64 Z)
 dsimp only [List.set] at C91
 go_wp2_with fail
 rw [←HW.out]
 clear HW C90 q0
 exact Mz.retA1 C91.out 0 rfl Tryz.results50 rfl rfl rfl ⟨_,Tryz.underlying43⟩ (by kernel_rfl) ⟨rfl,C91.out.gr.fresh⟩
set_option maxRecDepth 100000 in
set_option maxHeartbeats 4000000 in
theorem op8_L (x y:Int) (w:World):
 Calls Tryz.prog 50 #[.int .i64 8,.agg #[.bool true,.int .i64 x],.agg #[.bool true,.int .i64 y]] w fun e w'=>e= .returned (.tuple #[.agg #[.bool true,.int .i64 (Co.bit (decide (x≤y)))],.int .i64 0])∧Below w.heap.size w w':=by
 have KB:Hid (∀w,Calls Tryz.prog 47 #[.bool (decide (x≤y))] w fun e w'=>e= .returned (.agg #[.bool true,.int .i64 (Co.bit (decide (x≤y)))])∧Below w.heap.size w w'):=zh (fun w=>zAG _ w)
 obtain⟨Z,hZ⟩:∃X,Co.bit (decide (x≤y))=X:=⟨_,rfl⟩
 rw [hZ] at KB ⊢
 clear hZ
 have C0:=zh (My.start w)
 obtain⟨A,w92,HX92,HW92,hx92,C92⟩:=C0.out.boxE #[.bool true,.int .i64 x] 43
 obtain⟨B,w93,HX93,HW93,hx93,C93⟩:=C92.out.boxE #[.bool true,.int .i64 y] 43
 have HY93:Hid (B=A+1):=zh (by rw [HX93.out,HW92.out,HX92.out];simp)
 obtain⟨R,w94,HX94,HW94,hx94,C94⟩:=C93.out.boxE #[.bool false,.int .i64 0] 43
 have HY94:Hid (R=B+1):=zh (by rw [HX94.out,HW93.out,HX93.out];simp)
 go_enter Tryz.func50,Tryz.ntmps50
 go_upto_region 1 with fail
 rw [←HX92.out,←HW92.out,←HY93.out,←HW93.out,←HY94.out,←HW94.out]
 clear HX92 HW92 C0 HY93 HX93 HW93 C92 HY94 HX94 HW94 C93
 have q2:=cells2 (C94.out.b 2 rfl)
 have q1:=cells2 (C94.out.b 1 rfl)
 go_wp2_with fail
 clear q2 q1
 refine(KB.out _).mono ?_
 rintro e w95 ⟨rfl,hb⟩
 have C96:=zh (C94.out.below hb)
 clear C94
 clear hb
 have q0:=cells2 (C96.out.b 0 rfl)
 obtain⟨w97,HW,C97⟩:=C96.out.set2 0 rfl (.bool true) (.int .i64 Z)
 dsimp only [List.set] at C97
 go_wp2_with fail
 rw [←HW.out]
 clear HW C96 q0
 exact Mz.retA1 C97.out 0 rfl Tryz.results50 rfl rfl rfl ⟨_,Tryz.underlying43⟩ (by kernel_rfl) ⟨rfl,C97.out.gr.fresh⟩
set_option maxRecDepth 100000 in
set_option maxHeartbeats 4000000 in
theorem op9_L (x y:Int) (w:World):
 Calls Tryz.prog 50 #[.int .i64 9,.agg #[.bool true,.int .i64 x],.agg #[.bool true,.int .i64 y]] w fun e w'=>e= .returned (.tuple #[.agg #[.bool true,.int .i64 (Co.bit (decide (y<x)))],.int .i64 0])∧Below w.heap.size w w':=by
 have KB:Hid (∀w,Calls Tryz.prog 47 #[.bool (decide (y<x))] w fun e w'=>e= .returned (.agg #[.bool true,.int .i64 (Co.bit (decide (y<x)))])∧Below w.heap.size w w'):=zh (fun w=>zAG _ w)
 obtain⟨Z,hZ⟩:∃X,Co.bit (decide (y<x))=X:=⟨_,rfl⟩
 rw [hZ] at KB ⊢
 clear hZ
 have C0:=zh (My.start w)
 obtain⟨A,w98,HX98,HW98,hx98,C98⟩:=C0.out.boxE #[.bool true,.int .i64 x] 43
 obtain⟨B,w99,HX99,HW99,hx99,C99⟩:=C98.out.boxE #[.bool true,.int .i64 y] 43
 have HY99:Hid (B=A+1):=zh (by rw [HX99.out,HW98.out,HX98.out];simp)
 obtain⟨R,w100,HX100,HW100,hx100,C100⟩:=C99.out.boxE #[.bool false,.int .i64 0] 43
 have HY100:Hid (R=B+1):=zh (by rw [HX100.out,HW99.out,HX99.out];simp)
 go_enter Tryz.func50,Tryz.ntmps50
 go_upto_region 1 with fail
 rw [←HX98.out,←HW98.out,←HY99.out,←HW99.out,←HY100.out,←HW100.out]
 clear HX98 HW98 C0 HY99 HX99 HW99 C98 HY100 HX100 HW100 C99
 have q2:=cells2 (C100.out.b 2 rfl)
 have q1:=cells2 (C100.out.b 1 rfl)
 go_wp2_with fail
 clear q2 q1
 refine(KB.out _).mono ?_
 rintro e w101 ⟨rfl,hb⟩
 have C102:=zh (C100.out.below hb)
 clear C100
 clear hb
 have q0:=cells2 (C102.out.b 0 rfl)
 obtain⟨w103,HW,C103⟩:=C102.out.set2 0 rfl (.bool true) (.int .i64 Z)
 dsimp only [List.set] at C103
 go_wp2_with fail
 rw [←HW.out]
 clear HW C102 q0
 exact Mz.retA1 C103.out 0 rfl Tryz.results50 rfl rfl rfl ⟨_,Tryz.underlying43⟩ (by kernel_rfl) ⟨rfl,C103.out.gr.fresh⟩
set_option maxRecDepth 100000 in
set_option maxHeartbeats 4000000 in
theorem op10_L (x y:Int) (w:World):
 Calls Tryz.prog 50 #[.int .i64 10,.agg #[.bool true,.int .i64 x],.agg #[.bool true,.int .i64 y]] w fun e w'=>e= .returned (.tuple #[.agg #[.bool true,.int .i64 (Co.bit (decide (y≤x)))],.int .i64 0])∧Below w.heap.size w w':=by
 have KB:Hid (∀w,Calls Tryz.prog 47 #[.bool (decide (y≤x))] w fun e w'=>e= .returned (.agg #[.bool true,.int .i64 (Co.bit (decide (y≤x)))])∧Below w.heap.size w w'):=zh (fun w=>zAG _ w)
 obtain⟨Z,hZ⟩:∃X,Co.bit (decide (y≤x))=X:=⟨_,rfl⟩
 rw [hZ] at KB ⊢
 clear hZ
 have C0:=zh (My.start w)
 obtain⟨A,w104,HX104,HW104,hx104,C104⟩:=C0.out.boxE #[.bool true,.int .i64 x] 43
 obtain⟨B,w105,HX105,HW105,hx105,C105⟩:=C104.out.boxE #[.bool true,.int .i64 y] 43
 have HY105:Hid (B=A+1):=zh (by rw [HX105.out,HW104.out,HX104.out];simp)
 obtain⟨R,w106,HX106,HW106,hx106,C106⟩:=C105.out.boxE #[.bool false,.int .i64 0] 43
 have HY106:Hid (R=B+1):=zh (by rw [HX106.out,HW105.out,HX105.out];simp)
 go_enter Tryz.func50,Tryz.ntmps50
 go_upto_region 1 with fail
 rw [←HX104.out,←HW104.out,←HY105.out,←HW105.out,←HY106.out,←HW106.out]
 clear HX104 HW104 C0 HY105 HX105 HW105 C104 HY106 HX106 HW106 C105
 have q2:=cells2 (C106.out.b 2 rfl)
 have q1:=cells2 (C106.out.b 1 rfl)
 go_wp2_with fail
 clear q2 q1
 refine(KB.out _).mono ?_
 rintro e w107 ⟨rfl,hb⟩
 have C108:=zh (C106.out.below hb)
 clear C106
 clear hb
 have q0:=cells2 (C108.out.b 0 rfl)
 obtain⟨w109,HW,C109⟩:=C108.out.set2 0 rfl (.bool true) (.int .i64 Z)
 dsimp only [List.set] at C109
 go_wp2_with fail
 rw [←HW.out]
 clear HW C108 q0
 exact Mz.retA1 C109.out 0 rfl Tryz.results50 rfl rfl rfl ⟨_,Tryz.underlying43⟩ (by kernel_rfl) ⟨rfl,C109.out.gr.fresh⟩
end Cw
end Go.Proofs.YtcnmfcgmnkncaaaGreatDoor
