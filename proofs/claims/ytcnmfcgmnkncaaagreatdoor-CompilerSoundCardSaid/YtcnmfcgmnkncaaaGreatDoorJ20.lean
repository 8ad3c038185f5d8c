/-
  The checker's faults, walked.
-/
import Derived.Test.YtcnmfcgmnkncaaaGreatDoorJ19
import Derived.Deep.DeepCutAuto
namespace Go.Proofs.YtcnmfcgmnkncaaaGreatDoor
open Go.RowKit Go.Maps
theorem Bool.or_self_dec (a b:Bool):(a||b||b)=(a||b):=by cases a<;>cases b<;>rfl
def FaultsPost (cs:List Tr.C) (w:World) (e:Ending) (w':World):Prop:=
 ∃v,e= .returned v∧w'.ownsRow w.heap.size 99 2 v (Ck.rows cs).length (rowCells (Ck.rows cs))∧Below w.heap.size w w'
theorem fc1 (i:Nat):((i:Int) == 60)=(i == 60):=by rw [Bool.eq_iff_iff,beq_iff_eq,beq_iff_eq];omega
theorem fc2 (a b:Nat):(decide (30<(a:Int))||decide (30<(b:Int)))=decide (30<a∨30<b):=by
 rw [Bool.eq_iff_iff,Bool.or_eq_true,decide_eq_true_eq,decide_eq_true_eq,decide_eq_true_eq];omega
theorem fc3 (a b:Nat) (nm:ByteArray):(decide (a<b)||(nm.toList == [87,101,97,107]))=(decide (a<b)||decide (nm=Ck.weak)):=by
 have h:=zAK nm ⟨#[87,101,97,107]⟩
 have e:(⟨#[87,101,97,107]⟩:ByteArray).toList= [87,101,97,107]:=by first|rfl|simp|decide+kernel
 rw [e] at h
 rw [h]
 rfl
theorem zJH (cs:List Tr.C) (i:Nat) (hb:Ck.cnt cs≤1000000):(Ck.rowsC cs (cs.take i) 0).length≤13000000:=by
 have:=Ck.zGB cs (cs.take i) 0
 have:=Ck.zM2 cs i
 omega
theorem zNA {cs:List Tr.C} {i:Nat} {c:Tr.C} (h:Tr.validP cs=true) (hi:cs[i]? =some c):Tr.validC c=true:=by
 unfold Tr.validP at h
 rw [List.all_eq_true] at h
 exact h c (List.mem_of_getElem? hi)
theorem zNB {c:Tr.C} {k:Nat} {m:Tr.M} (h:Tr.validC c=true) (hk:c.methods[k]? =some m):Tr.validSs m.body=true:=by
 unfold Tr.validC at h
 rw [Bool.and_eq_true] at h
 have h2:=h.2
 rw [List.all_eq_true] at h2
 have h3:=h2 m (List.mem_of_getElem? hk)
 unfold Tr.validM at h3
 rw [Bool.and_eq_true] at h3
 exact h3.2
theorem held5 {p0 p1:Prop} {w:World} {L:List (Nat × Obj)} {P:Nat} {cv:Value} {c:Tr.C} {fv mv:Value} {f g:Nat→Bool} {out:Value} {rows:List (ByteArray × Nat)} {W:World} (h:p0∧p1∧Hid (FSt w L P cv c fv mv f out rows W∨FSt w L P cv c fv mv g out rows W)):FSt w L P cv c fv mv f out rows W∨FSt w L P cv c fv mv g out rows W:=h.2.2.out
theorem zHT {p0 p1:Prop} {w:World} {L:List (Nat × Obj)} {P:Nat} {cv:Value} {c:Tr.C} {fv mv:Value} {f g:Nat→Bool} {out:Value} {rows:List (ByteArray × Nat)} {W:World} (h:p0∧p1∧Hid (FSt w L P cv c fv mv f out rows W∨FSt w L P cv c fv mv g out rows W)):Below w.heap.size w W:=by
 rcases h.2.2.out with h|h<;>exact h.below
theorem zJ3 {q1 q2:Addr} {a1 a2:Value} {w:World} {L:List (Nat × Obj)} {P:Nat} {cv:Value} {c:Tr.C} {fv mv:Value} {f g:Nat→Bool} {out:Value} {rows:List (ByteArray × Nat)} {W W':World} (h:W.cell? q1=some a1∧W.cell? q2=some a2∧Hid (FSt w L P cv c fv mv f out rows W∨FSt w L P cv c fv mv g out rows W)) (hb:Below W.heap.size W W'):
 W'.cell? q1=some a1∧W'.cell? q2=some a2∧Hid (FSt w L P cv c fv mv f out rows W'∨FSt w L P cv c fv mv g out rows W'):=
 ⟨(zT (r:=none) hb).cell h.1 (by simp),(zT (r:=none) hb).cell h.2.1 (by simp),zh (h.2.2.out.elim (fun h=>Or.inl (h.keep hb)) (fun h=>Or.inr (h.keep hb)))⟩
set_option maxRecDepth 100000 in
set_option maxHeartbeats 40000000 in
theorem zOE (v:Value) (cs:List Tr.C) (w:World) (h:SlC w v cs) (hval:Tr.validP cs=true) (hsm:Ck.Small cs):
 Calls Tryz.prog 55 #[.agg #[v]] w (FaultsPost cs w):=by
 obtain⟨i0,hi0,hz0,hz1,hz2⟩:=info_parts faultInfo
 obtain⟨pv,cpv,rfl⟩:=h.form
 have hll:=h.len
 unfold maxLen at hll
 have KCL:Hid (∀(W:World) (nm:ByteArray),Below w.heap.size w W→Calls Tryz.prog 83 #[.agg #[.slice pv cs.length cpv],.string nm] W fun e w'=>e= .returned (.tuple #[.int .i64 ((Ck.classAt cs nm).getD 0:Nat),.bool (Ck.classAt cs nm).isSome])∧Below W.heap.size W w'):=fun W nm hb=>zG6 nm cs _ W (h.keep hb)
 have HH:=zh h
 obtain⟨CN,hCN⟩:∃N,cs.length=N:=⟨_,rfl⟩
 have HCN:=zh hCN
 rw [hCN] at HH KCL hll ⊢
 have HVAL:=zh hval
 have HSM:=zh hsm
 have HCNT:=hsm.cnt
 have HF0:Hid (FS0 w [(w.heap.size,(.cells #[.slice pv CN cpv] 24))] (.slice none 0 0) [] (w.alloc (.cells #[.slice pv CN cpv] 24))):=zh ⟨World.ownsRow_nil _ _ _ _,zD _ _,fun x hx=>by
  rcases List.mem_singleton.1 hx with rfl
  exact⟨(MapKept.heap_alloc w _).1,zP0 _ _ _ (by decide) (by decide)⟩⟩
 have e0:=HF0.out.cell (b:=w.heap.size) (j:=0) (cs:= #[.slice pv CN cpv]) (t:=24) (List.mem_cons_self ..) rfl
 obtain⟨w1,hw1⟩:∃w1,w1=w.alloc (.cells #[.slice pv CN cpv] 24):=⟨_,rfl⟩
 rw [←hw1] at HF0 e0
 have HW1:=zh hw1
 clear h hval hsm hCN hw1
 have hmm:=@run_makeMap Tryz.prog
 go_enter Tryz.func55,Tryz.ntmps55
 go_upto_region 1 with fail
 rw [←HW1.out]
 go_wp2_with fail
 clear e0 HW1
 go_loopg [3,20] CN (fun g s3 s20 wr=>∃i:Nat,s20= .int .i64 i∧i≤CN∧g=CN -i∧Hid (FS0 w [(w.heap.size,(.cells #[.slice pv CN cpv] 24))] s3 (Ck.rowsC cs (cs.take i) 0) wr))
 case atStart=>exact ⟨0,rfl,Nat.zero_le _,rfl,HF0⟩
 case round=>
  obtain⟨i,rfl,hi,rfl,HST⟩:=hrel
  have e0:=HST.out.cell (b:=w.heap.size) (j:=0) (cs:= #[.slice pv CN cpv]) (t:=24) (List.mem_cons_self ..) rfl
  by_cases hlt:i<CN
  ·obtain⟨c,hx⟩:∃x,cs[i]? =some x:=⟨_,List.getElem?_eq_getElem (by rw [HCN.out];exact hlt)⟩
   obtain⟨b,oo,vf,vm,rfl,hblt,hc,hnm,hsf,hsm⟩:=HH.out.get hx
   obtain⟨pf,cf,rfl⟩:=hsf.form
   obtain⟨pm,cm,rfl⟩:=hsm.form
   have hfl:=hsf.len
   have hml:=hsm.len
   unfold maxLen at hfl hml
   obtain⟨FN,hFN⟩:∃N,c.fields.length=N:=⟨_,rfl⟩
   obtain⟨MN,hMN⟩:∃N,c.methods.length=N:=⟨_,rfl⟩
   rw [hFN] at hc hfl
   rw [hMN] at hc hml
   have x0:=zA HST.out.below hc.1
   have x1:=zA HST.out.below hc.2.1
   have x2:=zA HST.out.below hc.2.2.1
   have x3:=zA HST.out.below hc.2.2.2
   have HX:=zh hx
   have HFN:=zh hFN
   have HMN:=zh hMN
   rw [hFN] at hsf
   rw [hMN] at hsm
   have HSF:=zh hsf
   have HSMm:=zh hsm
   have HSC:=zh (HSM.out.all c (List.mem_of_getElem? hx))
   have hcn40:=HSC.out.name
   have hrl:=zJH cs i HCNT
   have hfd:=Ck.zEK (Ck.faultC cs i c)
   have HVC:=zh (zNA HVAL.out hx)
   obtain⟨fi,hfi⟩:∃q,(Ck.classAt cs c.name).getD 0=q:=⟨_,rfl⟩
   obtain⟨fb,hfb⟩:∃q,(Ck.classAt cs c.name).isSome=q:=⟨_,rfl⟩
   have HFI:=zh hfi
   have KC1:Hid (∀(W:World),Below w.heap.size w W→Calls Tryz.prog 83 #[.agg #[.slice (some ⟨b,oo,none⟩) CN cpv],.string c.name] W fun e w'=>e= .returned (.tuple #[.int .i64 (fi:Nat),.bool fb])∧Below W.heap.size W w'):=fun W hb=>by have:=KCL.out W c.name hb;rw [hfi,hfb] at this;exact this
   obtain⟨bc,hbc⟩:∃q,wr.heap.size=q:=⟨_,rfl⟩
   obtain⟨P,hP⟩:∃q,bc+1=q:=⟨_,rfl⟩
   have HF1:Hid (FSt w [(bc,(.cells #[.string c.name,.bool c.actor,.slice pf FN cf,.slice pm MN cm] 55)),(w.heap.size,(.cells #[.slice (some ⟨b,oo,none⟩) CN cpv] 24))] P (.slice (some ⟨b,oo,none⟩) CN cpv) c (.slice pf FN cf) (.slice pm MN cm) (fun _=>false) u3 (Ck.rowsC cs (cs.take i) 0) ((wr.alloc (.cells #[.string c.name,.bool c.actor,.slice pf FN cf,.slice pm MN cm] 55)).alloc (.cells #[.slice (some ⟨b,oo,none⟩) CN cpv,.string c.name,.bool c.actor,.slice pf FN cf,.slice pm MN cm,.bool false,.bool false,.bool false,.bool false,.bool false,.bool false,.bool false,.bool false,.bool false,.bool false,.bool false,.bool false,.bool false] 144))):=by
    have h1:=(HST.out.box #[.string c.name,.bool c.actor,.slice pf FN cf,.slice pm MN cm] 55 (by decide) (by decide)).put (.slice (some ⟨b,oo,none⟩) CN cpv) c (.slice pf FN cf) (.slice pm MN cm) (fun _=>false)
    rw [World.size_alloc,hbc,hP] at h1
    exact zh h1
   obtain⟨w3,hw3⟩:∃w3,w3=(wr.alloc (.cells #[.string c.name,.bool c.actor,.slice pf FN cf,.slice pm MN cm] 55)).alloc (.cells #[.slice (some ⟨b,oo,none⟩) CN cpv,.string c.name,.bool c.actor,.slice pf FN cf,.slice pm MN cm,.bool false,.bool false,.bool false,.bool false,.bool false,.bool false,.bool false,.bool false,.bool false,.bool false,.bool false,.bool false,.bool false] 144):=⟨_,rfl⟩
   rw [←hw3] at HF1
   have HW3:=zh hw3
   have HBC:=zh hbc
   have HP:=zh hP
   clear hx hc hsf hsm hFN hMN hfi hfb hw3 hbc hP hblt hnm
   have hlt0:w.heap.size<wr.heap.size:=zZ e0
   go_upto_region 6 with fail
   rw [←HW3.out,HBC.out,HP.out]
   clear x0 x1 x2 x3 e0 HW3
   have e0:=HF1.out.cell (b:=w.heap.size) (j:=0) (cs:= #[.slice (some ⟨b,oo,none⟩) CN cpv]) (t:=24) (List.mem_cons_of_mem _ (List.mem_cons_self ..)) rfl
   have c0:=HF1.out.cell (b:=bc) (j:=0) (u:= .string c.name) (cs:= #[.string c.name,.bool c.actor,.slice pf FN cf,.slice pm MN cm]) (t:=55) (List.mem_cons_self ..) rfl
   go_wp2_with fail
   refine(KC1.out _ HF1.out.below).mono ?_
   rintro e w4 ⟨rfl,hb4⟩
   have HF2:=zh (HF1.out.keep hb4)
   clear hb4 HF1 e0 c0
   go_wp2_with fail
   refine(zAY P 0 _ _ _ c _ _ _ (by omega) HF2.out.place).mono ?_
   rintro e w5 ⟨rfl,hP5,hg5⟩
   have HF3:=zh (HF2.out.next hP5 hg5)
   clear hP5 hg5 HF2
   have c2:=HF3.out.cell (b:=bc) (j:=2) (u:= .slice pf FN cf) (cs:= #[.string c.name,.bool c.actor,.slice pf FN cf,.slice pm MN cm]) (t:=55) (List.mem_cons_self ..) rfl
   have c3:=HF3.out.cell (b:=bc) (j:=3) (u:= .slice pm MN cm) (cs:= #[.string c.name,.bool c.actor,.slice pf FN cf,.slice pm MN cm]) (t:=55) (List.mem_cons_self ..) rfl
   go_upto_region 8 with fail
   go_cut [] (fun wx=>Hid (FSt w [(bc,(.cells #[.string c.name,.bool c.actor,.slice pf FN cf,.slice pm MN cm] 55)),(w.heap.size,(.cells #[.slice (some ⟨b,oo,none⟩) CN cpv] 24))] P (.slice (some ⟨b,oo,none⟩) CN cpv) c (.slice pf FN cf) (.slice pm MN cm) (fun t=>t == 0 && i == 60||t == 1 && decide (30<FN∨30<MN)) u3 (Ck.rowsC cs (cs.take i) 0) wx))
   case first=>
    by_cases h30:30<FN
    ·have H30:=zh h30
     go_wp2_with fail
     refine(zAY P 1 _ _ _ c _ _ _ (by omega) HF3.out.place).mono ?_
     rintro e w5 ⟨rfl,hP5,hg5⟩
     have HF4:=zh (HF3.out.next hP5 hg5)
     clear hP5 hg5 c2 c3
     go_wp2_with fail
     go_meet
     exact zh (HF4.out.congr (fun t=>by rw [fc1,Bool.false_or,decide_eq_true (p:=30<FN∨30<MN) (Or.inl H30.out)]))
    ·have h30':FN≤30:=by omega
     clear h30
     go_wp2_with fail
     refine(zAY P 1 _ _ _ c _ _ _ (by omega) HF3.out.place).mono ?_
     rintro e w5 ⟨rfl,hP5,hg5⟩
     have HF4:=zh (HF3.out.next hP5 hg5)
     clear hP5 hg5 c2 c3
     go_wp2_with fail
     go_meet
     exact zh (HF4.out.congr (fun t=>by rw [fc1,Bool.false_or,fc2]))
   case rest=>
   have HF4:=hcut
   clear hcut HF3 c2 c3
   have c0:=HF4.out.cell (b:=bc) (j:=0) (u:= .string c.name) (cs:= #[.string c.name,.bool c.actor,.slice pf FN cf,.slice pm MN cm]) (t:=55) (List.mem_cons_self ..) rfl
   go_upto_region 9 with fail
   go_cut [] (fun wx=>Hid (FSt w [(bc,(.cells #[.string c.name,.bool c.actor,.slice pf FN cf,.slice pm MN cm] 55)),(w.heap.size,(.cells #[.slice (some ⟨b,oo,none⟩) CN cpv] 24))] P (.slice (some ⟨b,oo,none⟩) CN cpv) c (.slice pf FN cf) (.slice pm MN cm) (fun t=>t == 0 && i == 60||t == 1 && decide (30<FN∨30<MN)||t == 2 && (decide (fi<i)||decide (c.name=Ck.weak))) u3 (Ck.rowsC cs (cs.take i) 0) wx))
   case first=>
    by_cases hlti:fi<i
    ·have HLT:=zh hlti
     go_wp2_with fail
     refine(zAY P 2 _ _ _ c _ _ _ (by omega) HF4.out.place).mono ?_
     rintro e w5 ⟨rfl,hP5,hg5⟩
     have HF5:=zh (HF4.out.next hP5 hg5)
     clear hP5 hg5 c0
     go_wp2_with fail
     go_meet
     exact zh (HF5.out.congr (fun t=>by rw [decide_eq_true HLT.out,Bool.true_or]))
    ·have hlti':i≤fi:=by omega
     clear hlti
     go_wp2_with fail
     refine(zAY P 2 _ _ _ c _ _ _ (by omega) HF4.out.place).mono ?_
     rintro e w5 ⟨rfl,hP5,hg5⟩
     have HF5:=zh (HF4.out.next hP5 hg5)
     clear hP5 hg5 c0
     go_wp2_with fail
     go_meet
     exact zh (HF5.out.congr (fun t=>by rw [fc3]))
   case rest=>
   have HF5:=hcut
   clear hcut HF4 c0
   have c2:=HF5.out.cell (b:=bc) (j:=2) (u:= .slice pf FN cf) (cs:= #[.string c.name,.bool c.actor,.slice pf FN cf,.slice pm MN cm]) (t:=55) (List.mem_cons_self ..) rfl
   have KR:Hid (∀(W:World),Below w.heap.size w W→Calls Tryz.prog 85 #[.slice pf FN cf] W fun e w'=>e= .returned (.bool (Ck.twice c.fields))∧Below W.heap.size W w'):=fun W hb=>zE7 _ c.fields W (HSF.out.keep hb)
   go_wp2_with fail
   refine(KR.out _ HF5.out.below).mono ?_
   rintro e w6 ⟨rfl,hb6⟩
   have HF6:=zh (HF5.out.keep hb6)
   clear hb6 c2 HF5
   go_wp2_with fail
   refine(zAY P 3 _ _ _ c _ _ _ (by omega) HF6.out.place).mono ?_
   rintro e w7 ⟨rfl,hP7,hg7⟩
   have HF7:Hid (FSt w [(bc,(.cells #[.string c.name,.bool c.actor,.slice pf FN cf,.slice pm MN cm] 55)),(w.heap.size,(.cells #[.slice (some ⟨b,oo,none⟩) CN cpv] 24))] P (.slice (some ⟨b,oo,none⟩) CN cpv) c (.slice pf FN cf) (.slice pm MN cm) (Ck.faultC cs i c) u3 (Ck.rowsC cs (cs.take i) 0) w7):=zh ((HF6.out.next hP7 hg7).congr (fun t=>by unfold Ck.faultC;rw [HFI.out,HFN.out,HMN.out]))
   clear hP7 hg7 HF6
   have c0:=HF7.out.cell (b:=bc) (j:=0) (u:= .string c.name) (cs:= #[.string c.name,.bool c.actor,.slice pf FN cf,.slice pm MN cm]) (t:=55) (List.mem_cons_self ..) rfl
   have hs6:¬9223372036854775807<6+c.name.size:=by omega
   go_wp2_with fail
   refine(zMH P _ _ _ c _ _ _ HF7.out.place).mono ?_
   rintro e w8 ⟨lv,rfl,ho8,hb8⟩
   have HF8:=zh (HF7.out.keep hb8)
   have HO8:=zh ho8
   clear hb8 ho8 c0 HF7
   go_wp2_with (at_builtin;refine zBW _ rfl _ _ 96 rfl w.heap.size 99 i0 (.agg #[.string ⟨#[]⟩,.int .i64 0]) 2 24 Tryz.underlying96 hi0 hz0 hz1 hz2 rfl (by decide) _ _ _ rfl HF8.out.own lv _ _ _ rfl HO8.out (zFD _ _) (by unfold maxLen;omega) (by omega) HF8.out.below.size ?_;intro v7 w7 ho7 hg7;have HF9:Hid (FS0 w [(bc,(.cells #[.string c.name,.bool c.actor,.slice pf FN cf,.slice pm MN cm] 55)),(w.heap.size,(.cells #[.slice (some ⟨b,oo,none⟩) CN cpv] 24))] v7 ((Ck.rowsC cs (cs.take i) 0)++(Ck.found (Ck.faultC cs i c)).map (fun t=>(Ck.clsText c,t))) w7):=zh (HF8.out.app (more:=(Ck.found (Ck.faultC cs i c)).map (fun t=>(Ck.clsText c,t))) (List.length_map ..) (by rw [zE6];exact ho7) hg7).drop;have c3:=HF9.out.cell (b:=bc) (j:=3) (u:= .slice pm MN cm) (cs:= #[.string c.name,.bool c.actor,.slice pf FN cf,.slice pm MN cm]) (t:=55) (List.mem_cons_self ..) rfl)
   clear ho7 hg7 HF8 HO8 hs6 c3
   go_loopg [3,77] MN (fun g s3 s77 wr=>∃k:Nat,s77= .int .i64 k∧k≤MN∧g=MN -k∧Hid (FS0 w [(bc,(.cells #[.string c.name,.bool c.actor,.slice pf FN cf,.slice pm MN cm] 55)),(w.heap.size,(.cells #[.slice (some ⟨b,oo,none⟩) CN cpv] 24))] s3 (((Ck.rowsC cs (cs.take i) 0)++(Ck.found (Ck.faultC cs i c)).map (fun t=>(Ck.clsText c,t)))++Ck.rowsM cs c (c.methods.take k) 0) wr))
   case atStart=>exact ⟨0,rfl,Nat.zero_le _,rfl,by rw [List.take_zero,Ck.rowsM,List.append_nil];exact HF9⟩
   case round=>
    obtain⟨k,rfl,hk,rfl,HMT⟩:=hrel
    by_cases hkl:k<MN
    ·obtain⟨m,hy⟩:∃x,c.methods[k]? =some x:=⟨_,List.getElem?_eq_getElem (by rw [HMN.out];exact hkl)⟩
     obtain⟨b2,o2,vp,vb,rfl,hblt2,hcm,hnm2,hsp,hsb⟩:=HSMm.out.get hy
     obtain⟨pp,cp,rfl⟩:=hsp.form
     obtain⟨pb,cb,rfl,_⟩:=hsb.form
     obtain⟨PN,hPN⟩:∃N,m.params.length=N:=⟨_,rfl⟩
     obtain⟨BN,hBN⟩:∃N,m.body.length=N:=⟨_,rfl⟩
     obtain⟨LN,hLN⟩:∃N,Ck.lets m.body=N:=⟨_,rfl⟩
     rw [hPN,hBN] at hcm
     have y0:=zA HMT.out.below hcm.1
     have y1:=zA HMT.out.below hcm.2.1
     have y2:=zA HMT.out.below hcm.2.2
     have HSMA:=zh (HSC.out.all m (List.mem_of_getElem? hy))
     have hmn40:=HSMA.out.name
     have hpn:=HSMA.out.params
     have hln:=HSMA.out.lets
     rw [hPN] at hpn hln
     rw [hLN] at hln
     have HVB:=zh (zNB HVC.out hy)
     have hrm:=Ck.zF9 cs c (c.methods.take k) 0
     rw [List.length_take,HMN.out,Nat.min_eq_left hk] at hrm
     have hmn6:=HSC.out.mths
     rw [HMN.out] at hmn6
     have hfdm:=Ck.zEK (Ck.faultM cs c k m)
     have hln2:(((Ck.rowsC cs (cs.take i) 0)++(Ck.found (Ck.faultC cs i c)).map (fun t=>(Ck.clsText c,t)))++Ck.rowsM cs c (c.methods.take k) 0).length≤30000000:=by rw [List.length_append,List.length_append,List.length_map];omega
     obtain⟨gi,hgi⟩:∃q,(Ck.methodAt c.methods m.name).getD 0=q:=⟨_,rfl⟩
     obtain⟨gb,hgb⟩:∃q,(Ck.methodAt c.methods m.name).isSome=q:=⟨_,rfl⟩
     have KM1:Hid (∀(W:World),Below w.heap.size w W→Calls Tryz.prog 87 #[.agg #[.string c.name,.bool c.actor,.slice pf FN cf,.slice (some ⟨b2,o2,none⟩) MN cm],.string m.name] W fun e w'=>e= .returned (.tuple #[.int .i64 (gi:Nat),.bool gb])∧Below W.heap.size W w'):=fun W hb=>by have:=method_any m.name c _ _ W (HSF.out.keep hb) (HSMm.out.keep hb);unfold classV at this;rw [hgi,hgb] at this;exact this
     have KL1:Hid (∀(W:World),Below w.heap.size w W→Calls Tryz.prog 88 #[.slice pb BN cb] W fun e w'=>e= .returned (.int .i64 (LN:Nat))∧Below W.heap.size W w'):=fun W hb=>by have:=zR6 _ m.body _ W (Nat.le_refl _) (hsb.keep hb) (by omega);rw [hLN,hBN] at this;exact this
     have KR1:Hid (∀(W:World),Below w.heap.size w W→Calls Tryz.prog 85 #[.slice pp PN cp] W fun e w'=>e= .returned (.bool (Ck.twice m.params))∧Below W.heap.size W w'):=fun W hb=>by have:=zE7 _ m.params W (hsp.keep hb);rw [hPN] at this;exact this
     rw [hPN] at hsp
     rw [hBN] at hsb
     have HSP:=zh hsp
     have HSB:=zh hsb
     have HY:=zh hy
     have HPN:=zh hPN
     have HLN:=zh hLN
     have HGI:=zh hgi
     obtain⟨rws,hrws⟩:∃q,(((Ck.rowsC cs (cs.take i) 0)++(Ck.found (Ck.faultC cs i c)).map (fun t=>(Ck.clsText c,t)))++Ck.rowsM cs c (c.methods.take k) 0)=q:=⟨_,rfl⟩
     have HMT2:=HMT.out
     rw [hrws] at HMT2 hln2
     have HRW:=zh hrws
     have e0:=HMT2.cell (b:=w.heap.size) (j:=0) (u:= .slice (some ⟨b,oo,none⟩) CN cpv) (cs:= #[.slice (some ⟨b,oo,none⟩) CN cpv]) (t:=24) (List.mem_cons_of_mem _ (List.mem_cons_self ..)) rfl
     have c0:=HMT2.cell (b:=bc) (j:=0) (u:= .string c.name) (cs:= #[.string c.name,.bool c.actor,.slice pf FN cf,.slice (some ⟨b2,o2,none⟩) MN cm]) (t:=55) (List.mem_cons_self ..) rfl
     have c1:=HMT2.cell (b:=bc) (j:=1) (u:= .bool c.actor) (cs:= #[.string c.name,.bool c.actor,.slice pf FN cf,.slice (some ⟨b2,o2,none⟩) MN cm]) (t:=55) (List.mem_cons_self ..) rfl
     have c2:=HMT2.cell (b:=bc) (j:=2) (u:= .slice pf FN cf) (cs:= #[.string c.name,.bool c.actor,.slice pf FN cf,.slice (some ⟨b2,o2,none⟩) MN cm]) (t:=55) (List.mem_cons_self ..) rfl
     have c3:=HMT2.cell (b:=bc) (j:=3) (u:= .slice (some ⟨b2,o2,none⟩) MN cm) (cs:= #[.string c.name,.bool c.actor,.slice pf FN cf,.slice (some ⟨b2,o2,none⟩) MN cm]) (t:=55) (List.mem_cons_self ..) rfl
     have hlt0:w.heap.size<wr.heap.size:=zZ e0
     have hlt1:bc<wr.heap.size:=zZ c0
     obtain⟨bm,hbm⟩:∃q,wr.heap.size=q:=⟨_,rfl⟩
     obtain⟨P2,hP2⟩:∃q,bm+1=q:=⟨_,rfl⟩
     have HG1:Hid (FSt w [(bm,(.cells #[.string m.name,.slice pp PN cp,.slice pb BN cb] 62)),(bc,(.cells #[.string c.name,.bool c.actor,.slice pf FN cf,.slice (some ⟨b2,o2,none⟩) MN cm] 55)),(w.heap.size,(.cells #[.slice (some ⟨b,oo,none⟩) CN cpv] 24))] P2 (.slice (some ⟨b,oo,none⟩) CN cpv) c (.slice pf FN cf) (.slice (some ⟨b2,o2,none⟩) MN cm) (fun _=>false) u3 rws ((wr.alloc (.cells #[.string m.name,.slice pp PN cp,.slice pb BN cb] 62)).alloc (.cells #[.slice (some ⟨b,oo,none⟩) CN cpv,.string c.name,.bool c.actor,.slice pf FN cf,.slice (some ⟨b2,o2,none⟩) MN cm,.bool false,.bool false,.bool false,.bool false,.bool false,.bool false,.bool false,.bool false,.bool false,.bool false,.bool false,.bool false,.bool false] 144))):=by
      have h1:=(HMT2.box #[.string m.name,.slice pp PN cp,.slice pb BN cb] 62 (by decide) (by decide)).put (.slice (some ⟨b,oo,none⟩) CN cpv) c (.slice pf FN cf) (.slice (some ⟨b2,o2,none⟩) MN cm) (fun _=>false)
      rw [World.size_alloc,hbm,hP2] at h1
      exact zh h1
     obtain⟨w4,hw4⟩:∃w4,w4=(wr.alloc (.cells #[.string m.name,.slice pp PN cp,.slice pb BN cb] 62)).alloc (.cells #[.slice (some ⟨b,oo,none⟩) CN cpv,.string c.name,.bool c.actor,.slice pf FN cf,.slice (some ⟨b2,o2,none⟩) MN cm,.bool false,.bool false,.bool false,.bool false,.bool false,.bool false,.bool false,.bool false,.bool false,.bool false,.bool false,.bool false,.bool false] 144):=⟨_,rfl⟩
     rw [←hw4] at HG1
     have HW4:=zh hw4
     have HBM:=zh hbm
     have HP2:=zh hP2
     clear hy hcm hsp hsb hPN hBN hLN hgi hgb hw4 hbm hP2 hblt2 hnm2 hrm HMT2 HF9 HMT hrws
     go_upto_region 16 with fail
     rw [←HW4.out,HBM.out,HP2.out]
     clear y0 y1 y2 e0 c0 c1 c2 c3 hlt0 hlt1 HW4
     have c0:=HG1.out.cell (b:=bc) (j:=0) (u:= .string c.name) (cs:= #[.string c.name,.bool c.actor,.slice pf FN cf,.slice (some ⟨b2,o2,none⟩) MN cm]) (t:=55) (List.mem_cons_of_mem _ (List.mem_cons_self ..)) rfl
     have c1:=HG1.out.cell (b:=bc) (j:=1) (u:= .bool c.actor) (cs:= #[.string c.name,.bool c.actor,.slice pf FN cf,.slice (some ⟨b2,o2,none⟩) MN cm]) (t:=55) (List.mem_cons_of_mem _ (List.mem_cons_self ..)) rfl
     have c2:=HG1.out.cell (b:=bc) (j:=2) (u:= .slice pf FN cf) (cs:= #[.string c.name,.bool c.actor,.slice pf FN cf,.slice (some ⟨b2,o2,none⟩) MN cm]) (t:=55) (List.mem_cons_of_mem _ (List.mem_cons_self ..)) rfl
     have c3:=HG1.out.cell (b:=bc) (j:=3) (u:= .slice (some ⟨b2,o2,none⟩) MN cm) (cs:= #[.string c.name,.bool c.actor,.slice pf FN cf,.slice (some ⟨b2,o2,none⟩) MN cm]) (t:=55) (List.mem_cons_of_mem _ (List.mem_cons_self ..)) rfl
     have d0:=HG1.out.cell (b:=bm) (j:=0) (u:= .string m.name) (cs:= #[.string m.name,.slice pp PN cp,.slice pb BN cb]) (t:=62) (List.mem_cons_self ..) rfl
     go_wp2_with fail
     refine(KM1.out _ HG1.out.below).mono ?_
     rintro e w5 ⟨rfl,hb5⟩
     have HG2:=zh (HG1.out.keep hb5)
     clear hb5 HG1 c0 c1 c2 c3 d0
     go_wp2_with fail
     refine(zAY P2 4 _ _ _ c _ _ _ (by omega) HG2.out.place).mono ?_
     rintro e w6 ⟨rfl,hP6,hg6⟩
     have HG3:=zh (HG2.out.next hP6 hg6)
     clear hP6 hg6 HG2
     have d1:=HG3.out.cell (b:=bm) (j:=1) (u:= .slice pp PN cp) (cs:= #[.string m.name,.slice pp PN cp,.slice pb BN cb]) (t:=62) (List.mem_cons_self ..) rfl
     have d2:=HG3.out.cell (b:=bm) (j:=2) (u:= .slice pb BN cb) (cs:= #[.string m.name,.slice pp PN cp,.slice pb BN cb]) (t:=62) (List.mem_cons_self ..) rfl
     go_upto_region 18 with fail
     go_cut [] (fun wx=>Hid (FSt w [(bm,(.cells #[.string m.name,.slice pp PN cp,.slice pb BN cb] 62)),(bc,(.cells #[.string c.name,.bool c.actor,.slice pf FN cf,.slice (some ⟨b2,o2,none⟩) MN cm] 55)),(w.heap.size,(.cells #[.slice (some ⟨b,oo,none⟩) CN cpv] 24))] P2 (.slice (some ⟨b,oo,none⟩) CN cpv) c (.slice pf FN cf) (.slice (some ⟨b2,o2,none⟩) MN cm) (fun t=>t == 4 && decide (gi<k)||t == 5 && decide (8<PN∨30<PN+LN)) u3 rws wx))
     case first=>
      by_cases h8:8<PN
      ·have H8:=zh h8
       clear h8
       go_wp2_with fail
       refine wp_region_still_tail 15 (by kernel_rfl) (by kernel_rfl) ?_
       simp only [List.take_succ_cons,List.take_zero,List.drop_succ_cons,List.drop_zero]
       iterate 6 still_step
       iterate 8 (refine wpStill_step (fun K hK=>?_);go_simp;rw [if_neg (show ¬(PN:Int)≤8 by have:=H8.out;omega)];refine hK _ ?_;clear hK K)
       have h8b:decide (8<(PN:Int))=true:=decide_eq_true (by have:=H8.out;omega)
       still_step
       refine wpStill_nil ?_
       change wpList _ _ _ _ _ w6.drew
       have HEd:=zh (HG3.out.keep (Below.refl _ _).drew)
       obtain⟨wd,hwd⟩:∃wd,wd=w6.drew:=⟨_,rfl⟩
       rw [←hwd] at HEd ⊢
       clear hwd
       go_wp2_with fail
       refine(zAY P2 5 true _ _ c _ _ _ (by omega) HEd.out.place).mono ?_
       rintro e w7 ⟨rfl,hP7,hg7⟩
       have HL0:=zh (HEd.out.next hP7 hg7)
       clear hP7 hg7 d1 d2 h8b
       go_wp2_with fail
       go_meet
       exact zh (HL0.out.congr (fun t=>by rw [Bool.false_or,decide_eq_true (p:=8<PN∨30<PN+LN) (Or.inl H8.out)]))
      ·have h8':PN≤8:=by omega
       have h8b:decide (8<(PN:Int))=false:=decide_eq_false (by omega)
       clear h8
       by_cases h30:30<PN+LN
       ·have h30b:decide (30<(PN:Int)+(LN:Int))=true:=decide_eq_true (by omega)
        have hdec:Hid (decide (8<PN∨30<PN+LN)=true):=by show _=_;exact decide_eq_true (by omega)
        have hs:IntKind.i64.wrap ((PN:Int)+(LN:Int))=(PN:Int)+(LN:Int):=IntWalk.i64_in _ (by omega)
        have K5:Hid (∀W,FSt w [(bm,(.cells #[.string m.name,.slice pp PN cp,.slice pb BN cb] 62)),(bc,(.cells #[.string c.name,.bool c.actor,.slice pf FN cf,.slice (some ⟨b2,o2,none⟩) MN cm] 55)),(w.heap.size,(.cells #[.slice (some ⟨b,oo,none⟩) CN cpv] 24))] P2 (.slice (some ⟨b,oo,none⟩) CN cpv) c (.slice pf FN cf) (.slice (some ⟨b2,o2,none⟩) MN cm) (fun t=>false||(t == 4 && decide (gi<k))) u3 rws W∨FSt w [(bm,(.cells #[.string m.name,.slice pp PN cp,.slice pb BN cb] 62)),(bc,(.cells #[.string c.name,.bool c.actor,.slice pf FN cf,.slice (some ⟨b2,o2,none⟩) MN cm] 55)),(w.heap.size,(.cells #[.slice (some ⟨b,oo,none⟩) CN cpv] 24))] P2 (.slice (some ⟨b,oo,none⟩) CN cpv) c (.slice pf FN cf) (.slice (some ⟨b2,o2,none⟩) MN cm) (fun t=>t == 4 && decide (gi<k)||t == 5 && decide (8<PN∨30<PN+LN)) u3 rws W→Calls Tryz.prog 84 #[.pointer (some ⟨P2,0,none⟩),.int .i64 5,.bool true] W fun e w'=>e= .returned (.tuple #[])∧w'.cell? ⟨bm,1,none⟩=some (.slice pp PN cp)∧w'.cell? ⟨bm,2,none⟩=some (.slice pb BN cb)∧Hid (FSt w [(bm,(.cells #[.string m.name,.slice pp PN cp,.slice pb BN cb] 62)),(bc,(.cells #[.string c.name,.bool c.actor,.slice pf FN cf,.slice (some ⟨b2,o2,none⟩) MN cm] 55)),(w.heap.size,(.cells #[.slice (some ⟨b,oo,none⟩) CN cpv] 24))] P2 (.slice (some ⟨b,oo,none⟩) CN cpv) c (.slice pf FN cf) (.slice (some ⟨b2,o2,none⟩) MN cm) (fun t=>false||(t == 4 && decide (gi<k))) u3 rws w'∨FSt w [(bm,(.cells #[.string m.name,.slice pp PN cp,.slice pb BN cb] 62)),(bc,(.cells #[.string c.name,.bool c.actor,.slice pf FN cf,.slice (some ⟨b2,o2,none⟩) MN cm] 55)),(w.heap.size,(.cells #[.slice (some ⟨b,oo,none⟩) CN cpv] 24))] P2 (.slice (some ⟨b,oo,none⟩) CN cpv) c (.slice pf FN cf) (.slice (some ⟨b2,o2,none⟩) MN cm) (fun t=>t == 4 && decide (gi<k)||t == 5 && decide (8<PN∨30<PN+LN)) u3 rws w')∧Hid (FSt w [(bm,(.cells #[.string m.name,.slice pp PN cp,.slice pb BN cb] 62)),(bc,(.cells #[.string c.name,.bool c.actor,.slice pf FN cf,.slice (some ⟨b2,o2,none⟩) MN cm] 55)),(w.heap.size,(.cells #[.slice (some ⟨b,oo,none⟩) CN cpv] 24))] P2 (.slice (some ⟨b,oo,none⟩) CN cpv) c (.slice pf FN cf) (.slice (some ⟨b2,o2,none⟩) MN cm) (fun t=>t == 4 && decide (gi<k)||t == 5 && decide (8<PN∨30<PN+LN)) u3 rws w')):=by
         intro W hW
         have key:∀W',PlaceAt W' P2 (.slice (some ⟨b,oo,none⟩) CN cpv) c (.slice pf FN cf) (.slice (some ⟨b2,o2,none⟩) MN cm) (fun t=>t == 4 && decide (gi<k)||t == 5 && decide (8<PN∨30<PN+LN))→W.grownBy W' (some P2)→FSt w [(bm,(.cells #[.string m.name,.slice pp PN cp,.slice pb BN cb] 62)),(bc,(.cells #[.string c.name,.bool c.actor,.slice pf FN cf,.slice (some ⟨b2,o2,none⟩) MN cm] 55)),(w.heap.size,(.cells #[.slice (some ⟨b,oo,none⟩) CN cpv] 24))] P2 (.slice (some ⟨b,oo,none⟩) CN cpv) c (.slice pf FN cf) (.slice (some ⟨b2,o2,none⟩) MN cm) (fun t=>t == 4 && decide (gi<k)||t == 5 && decide (8<PN∨30<PN+LN)) u3 rws W':=fun W' hp hg=>by rcases hW with hW|hW<;>exact hW.next hp hg
         have fin:∀W',FSt w [(bm,(.cells #[.string m.name,.slice pp PN cp,.slice pb BN cb] 62)),(bc,(.cells #[.string c.name,.bool c.actor,.slice pf FN cf,.slice (some ⟨b2,o2,none⟩) MN cm] 55)),(w.heap.size,(.cells #[.slice (some ⟨b,oo,none⟩) CN cpv] 24))] P2 (.slice (some ⟨b,oo,none⟩) CN cpv) c (.slice pf FN cf) (.slice (some ⟨b2,o2,none⟩) MN cm) (fun t=>t == 4 && decide (gi<k)||t == 5 && decide (8<PN∨30<PN+LN)) u3 rws W'→W'.cell? ⟨bm,1,none⟩=some (.slice pp PN cp)∧W'.cell? ⟨bm,2,none⟩=some (.slice pb BN cb)∧Hid (FSt w [(bm,(.cells #[.string m.name,.slice pp PN cp,.slice pb BN cb] 62)),(bc,(.cells #[.string c.name,.bool c.actor,.slice pf FN cf,.slice (some ⟨b2,o2,none⟩) MN cm] 55)),(w.heap.size,(.cells #[.slice (some ⟨b,oo,none⟩) CN cpv] 24))] P2 (.slice (some ⟨b,oo,none⟩) CN cpv) c (.slice pf FN cf) (.slice (some ⟨b2,o2,none⟩) MN cm) (fun t=>false||(t == 4 && decide (gi<k))) u3 rws W'∨FSt w [(bm,(.cells #[.string m.name,.slice pp PN cp,.slice pb BN cb] 62)),(bc,(.cells #[.string c.name,.bool c.actor,.slice pf FN cf,.slice (some ⟨b2,o2,none⟩) MN cm] 55)),(w.heap.size,(.cells #[.slice (some ⟨b,oo,none⟩) CN cpv] 24))] P2 (.slice (some ⟨b,oo,none⟩) CN cpv) c (.slice pf FN cf) (.slice (some ⟨b2,o2,none⟩) MN cm) (fun t=>t == 4 && decide (gi<k)||t == 5 && decide (8<PN∨30<PN+LN)) u3 rws W')∧Hid (FSt w [(bm,(.cells #[.string m.name,.slice pp PN cp,.slice pb BN cb] 62)),(bc,(.cells #[.string c.name,.bool c.actor,.slice pf FN cf,.slice (some ⟨b2,o2,none⟩) MN cm] 55)),(w.heap.size,(.cells #[.slice (some ⟨b,oo,none⟩) CN cpv] 24))] P2 (.slice (some ⟨b,oo,none⟩) CN cpv) c (.slice pf FN cf) (.slice (some ⟨b2,o2,none⟩) MN cm) (fun t=>t == 4 && decide (gi<k)||t == 5 && decide (8<PN∨30<PN+LN)) u3 rws W'):=fun W' h=>
          ⟨h.cell (b:=bm) (j:=1) (cs:= #[.string m.name,.slice pp PN cp,.slice pb BN cb]) (t:=62) (List.mem_cons_self ..) rfl,h.cell (b:=bm) (j:=2) (cs:= #[.string m.name,.slice pp PN cp,.slice pb BN cb]) (t:=62) (List.mem_cons_self ..) rfl,zh (Or.inr h),zh h⟩
         rcases hW with hW|hW
         ·refine(zAY P2 5 true W _ c _ _ _ (by omega) hW.place).mono ?_
          rintro e W' ⟨rfl,hp,hg⟩
          exact⟨rfl,fin W' (key W' (hp.congr (fun t=>by rw [hdec.out,Bool.false_or])) hg)⟩
         ·refine(zAY P2 5 true W _ c _ _ _ (by omega) hW.place).mono ?_
          rintro e W' ⟨rfl,hp,hg⟩
          exact⟨rfl,fin W' (key W' (hp.congr (fun t=>by rw [hdec.out,Bool.or_self_dec])) hg)⟩
        clear h30
        go_wp2_with fail
        go_region_held3 (fun w'=>w'.cell? ⟨bm,1,none⟩=some (.slice pp PN cp)∧w'.cell? ⟨bm,2,none⟩=some (.slice pb BN cb)∧Hid (FSt w [(bm,(.cells #[.string m.name,.slice pp PN cp,.slice pb BN cb] 62)),(bc,(.cells #[.string c.name,.bool c.actor,.slice pf FN cf,.slice (some ⟨b2,o2,none⟩) MN cm] 55)),(w.heap.size,(.cells #[.slice (some ⟨b,oo,none⟩) CN cpv] 24))] P2 (.slice (some ⟨b,oo,none⟩) CN cpv) c (.slice pf FN cf) (.slice (some ⟨b2,o2,none⟩) MN cm) (fun t=>false||(t == 4 && decide (gi<k))) u3 rws w'∨FSt w [(bm,(.cells #[.string m.name,.slice pp PN cp,.slice pb BN cb] 62)),(bc,(.cells #[.string c.name,.bool c.actor,.slice pf FN cf,.slice (some ⟨b2,o2,none⟩) MN cm] 55)),(w.heap.size,(.cells #[.slice (some ⟨b,oo,none⟩) CN cpv] 24))] P2 (.slice (some ⟨b,oo,none⟩) CN cpv) c (.slice pf FN cf) (.slice (some ⟨b2,o2,none⟩) MN cm) (fun t=>t == 4 && decide (gi<k)||t == 5 && decide (8<PN∨30<PN+LN)) u3 rws w')) (first|exact zJ3 (by assumption) hb|exact ⟨hA.1,hA.2.1,hA.2.2.1⟩|exact ⟨d1,d2,zh (Or.inl HG3.out)⟩|exact ⟨d1,d2,zh (Or.inl (HG3.out.keep (Below.refl _ _).drew))⟩|go_keep) (first|(go_at_call 88;(with_reducible refine(KL1.out _ (zHT (by assumption))).mono ?_);rintro e w' ⟨rfl,hb⟩)|(go_at_call 84;(with_reducible refine(K5.out _ (held5 (by assumption))).mono ?_);rintro e w' ⟨rfl,hA⟩))
        all_goals
         go_wp2_with fail
         go_meet
         exact hA.2.2.2
       ·have h30b:decide (30<(PN:Int)+(LN:Int))=false:=decide_eq_false (by omega)
        have hdec:Hid (decide (8<PN∨30<PN+LN)=false):=by show _=_;exact decide_eq_false (by omega)
        have hs:IntKind.i64.wrap ((PN:Int)+(LN:Int))=(PN:Int)+(LN:Int):=IntWalk.i64_in _ (by omega)
        have K5:Hid (∀W,FSt w [(bm,(.cells #[.string m.name,.slice pp PN cp,.slice pb BN cb] 62)),(bc,(.cells #[.string c.name,.bool c.actor,.slice pf FN cf,.slice (some ⟨b2,o2,none⟩) MN cm] 55)),(w.heap.size,(.cells #[.slice (some ⟨b,oo,none⟩) CN cpv] 24))] P2 (.slice (some ⟨b,oo,none⟩) CN cpv) c (.slice pf FN cf) (.slice (some ⟨b2,o2,none⟩) MN cm) (fun t=>false||(t == 4 && decide (gi<k))) u3 rws W∨FSt w [(bm,(.cells #[.string m.name,.slice pp PN cp,.slice pb BN cb] 62)),(bc,(.cells #[.string c.name,.bool c.actor,.slice pf FN cf,.slice (some ⟨b2,o2,none⟩) MN cm] 55)),(w.heap.size,(.cells #[.slice (some ⟨b,oo,none⟩) CN cpv] 24))] P2 (.slice (some ⟨b,oo,none⟩) CN cpv) c (.slice pf FN cf) (.slice (some ⟨b2,o2,none⟩) MN cm) (fun t=>t == 4 && decide (gi<k)||t == 5 && decide (8<PN∨30<PN+LN)) u3 rws W→Calls Tryz.prog 84 #[.pointer (some ⟨P2,0,none⟩),.int .i64 5,.bool false] W fun e w'=>e= .returned (.tuple #[])∧w'.cell? ⟨bm,1,none⟩=some (.slice pp PN cp)∧w'.cell? ⟨bm,2,none⟩=some (.slice pb BN cb)∧Hid (FSt w [(bm,(.cells #[.string m.name,.slice pp PN cp,.slice pb BN cb] 62)),(bc,(.cells #[.string c.name,.bool c.actor,.slice pf FN cf,.slice (some ⟨b2,o2,none⟩) MN cm] 55)),(w.heap.size,(.cells #[.slice (some ⟨b,oo,none⟩) CN cpv] 24))] P2 (.slice (some ⟨b,oo,none⟩) CN cpv) c (.slice pf FN cf) (.slice (some ⟨b2,o2,none⟩) MN cm) (fun t=>false||(t == 4 && decide (gi<k))) u3 rws w'∨FSt w [(bm,(.cells #[.string m.name,.slice pp PN cp,.slice pb BN cb] 62)),(bc,(.cells #[.string c.name,.bool c.actor,.slice pf FN cf,.slice (some ⟨b2,o2,none⟩) MN cm] 55)),(w.heap.size,(.cells #[.slice (some ⟨b,oo,none⟩) CN cpv] 24))] P2 (.slice (some ⟨b,oo,none⟩) CN cpv) c (.slice pf FN cf) (.slice (some ⟨b2,o2,none⟩) MN cm) (fun t=>t == 4 && decide (gi<k)||t == 5 && decide (8<PN∨30<PN+LN)) u3 rws w')∧Hid (FSt w [(bm,(.cells #[.string m.name,.slice pp PN cp,.slice pb BN cb] 62)),(bc,(.cells #[.string c.name,.bool c.actor,.slice pf FN cf,.slice (some ⟨b2,o2,none⟩) MN cm] 55)),(w.heap.size,(.cells #[.slice (some ⟨b,oo,none⟩) CN cpv] 24))] P2 (.slice (some ⟨b,oo,none⟩) CN cpv) c (.slice pf FN cf) (.slice (some ⟨b2,o2,none⟩) MN cm) (fun t=>t == 4 && decide (gi<k)||t == 5 && decide (8<PN∨30<PN+LN)) u3 rws w')):=by
         intro W hW
         have key:∀W',PlaceAt W' P2 (.slice (some ⟨b,oo,none⟩) CN cpv) c (.slice pf FN cf) (.slice (some ⟨b2,o2,none⟩) MN cm) (fun t=>t == 4 && decide (gi<k)||t == 5 && decide (8<PN∨30<PN+LN))→W.grownBy W' (some P2)→FSt w [(bm,(.cells #[.string m.name,.slice pp PN cp,.slice pb BN cb] 62)),(bc,(.cells #[.string c.name,.bool c.actor,.slice pf FN cf,.slice (some ⟨b2,o2,none⟩) MN cm] 55)),(w.heap.size,(.cells #[.slice (some ⟨b,oo,none⟩) CN cpv] 24))] P2 (.slice (some ⟨b,oo,none⟩) CN cpv) c (.slice pf FN cf) (.slice (some ⟨b2,o2,none⟩) MN cm) (fun t=>t == 4 && decide (gi<k)||t == 5 && decide (8<PN∨30<PN+LN)) u3 rws W':=fun W' hp hg=>by rcases hW with hW|hW<;>exact hW.next hp hg
         have fin:∀W',FSt w [(bm,(.cells #[.string m.name,.slice pp PN cp,.slice pb BN cb] 62)),(bc,(.cells #[.string c.name,.bool c.actor,.slice pf FN cf,.slice (some ⟨b2,o2,none⟩) MN cm] 55)),(w.heap.size,(.cells #[.slice (some ⟨b,oo,none⟩) CN cpv] 24))] P2 (.slice (some ⟨b,oo,none⟩) CN cpv) c (.slice pf FN cf) (.slice (some ⟨b2,o2,none⟩) MN cm) (fun t=>t == 4 && decide (gi<k)||t == 5 && decide (8<PN∨30<PN+LN)) u3 rws W'→W'.cell? ⟨bm,1,none⟩=some (.slice pp PN cp)∧W'.cell? ⟨bm,2,none⟩=some (.slice pb BN cb)∧Hid (FSt w [(bm,(.cells #[.string m.name,.slice pp PN cp,.slice pb BN cb] 62)),(bc,(.cells #[.string c.name,.bool c.actor,.slice pf FN cf,.slice (some ⟨b2,o2,none⟩) MN cm] 55)),(w.heap.size,(.cells #[.slice (some ⟨b,oo,none⟩) CN cpv] 24))] P2 (.slice (some ⟨b,oo,none⟩) CN cpv) c (.slice pf FN cf) (.slice (some ⟨b2,o2,none⟩) MN cm) (fun t=>false||(t == 4 && decide (gi<k))) u3 rws W'∨FSt w [(bm,(.cells #[.string m.name,.slice pp PN cp,.slice pb BN cb] 62)),(bc,(.cells #[.string c.name,.bool c.actor,.slice pf FN cf,.slice (some ⟨b2,o2,none⟩) MN cm] 55)),(w.heap.size,(.cells #[.slice (some ⟨b,oo,none⟩) CN cpv] 24))] P2 (.slice (some ⟨b,oo,none⟩) CN cpv) c (.slice pf FN cf) (.slice (some ⟨b2,o2,none⟩) MN cm) (fun t=>t == 4 && decide (gi<k)||t == 5 && decide (8<PN∨30<PN+LN)) u3 rws W')∧Hid (FSt w [(bm,(.cells #[.string m.name,.slice pp PN cp,.slice pb BN cb] 62)),(bc,(.cells #[.string c.name,.bool c.actor,.slice pf FN cf,.slice (some ⟨b2,o2,none⟩) MN cm] 55)),(w.heap.size,(.cells #[.slice (some ⟨b,oo,none⟩) CN cpv] 24))] P2 (.slice (some ⟨b,oo,none⟩) CN cpv) c (.slice pf FN cf) (.slice (some ⟨b2,o2,none⟩) MN cm) (fun t=>t == 4 && decide (gi<k)||t == 5 && decide (8<PN∨30<PN+LN)) u3 rws W'):=fun W' h=>
          ⟨h.cell (b:=bm) (j:=1) (cs:= #[.string m.name,.slice pp PN cp,.slice pb BN cb]) (t:=62) (List.mem_cons_self ..) rfl,h.cell (b:=bm) (j:=2) (cs:= #[.string m.name,.slice pp PN cp,.slice pb BN cb]) (t:=62) (List.mem_cons_self ..) rfl,zh (Or.inr h),zh h⟩
         rcases hW with hW|hW
         ·refine(zAY P2 5 false W _ c _ _ _ (by omega) hW.place).mono ?_
          rintro e W' ⟨rfl,hp,hg⟩
          exact⟨rfl,fin W' (key W' (hp.congr (fun t=>by rw [hdec.out,Bool.false_or])) hg)⟩
         ·refine(zAY P2 5 false W _ c _ _ _ (by omega) hW.place).mono ?_
          rintro e W' ⟨rfl,hp,hg⟩
          exact⟨rfl,fin W' (key W' (hp.congr (fun t=>by rw [hdec.out,Bool.or_self_dec])) hg)⟩
        clear h30
        go_wp2_with fail
        go_region_held3 (fun w'=>w'.cell? ⟨bm,1,none⟩=some (.slice pp PN cp)∧w'.cell? ⟨bm,2,none⟩=some (.slice pb BN cb)∧Hid (FSt w [(bm,(.cells #[.string m.name,.slice pp PN cp,.slice pb BN cb] 62)),(bc,(.cells #[.string c.name,.bool c.actor,.slice pf FN cf,.slice (some ⟨b2,o2,none⟩) MN cm] 55)),(w.heap.size,(.cells #[.slice (some ⟨b,oo,none⟩) CN cpv] 24))] P2 (.slice (some ⟨b,oo,none⟩) CN cpv) c (.slice pf FN cf) (.slice (some ⟨b2,o2,none⟩) MN cm) (fun t=>false||(t == 4 && decide (gi<k))) u3 rws w'∨FSt w [(bm,(.cells #[.string m.name,.slice pp PN cp,.slice pb BN cb] 62)),(bc,(.cells #[.string c.name,.bool c.actor,.slice pf FN cf,.slice (some ⟨b2,o2,none⟩) MN cm] 55)),(w.heap.size,(.cells #[.slice (some ⟨b,oo,none⟩) CN cpv] 24))] P2 (.slice (some ⟨b,oo,none⟩) CN cpv) c (.slice pf FN cf) (.slice (some ⟨b2,o2,none⟩) MN cm) (fun t=>t == 4 && decide (gi<k)||t == 5 && decide (8<PN∨30<PN+LN)) u3 rws w')) (first|exact zJ3 (by assumption) hb|exact ⟨hA.1,hA.2.1,hA.2.2.1⟩|exact ⟨d1,d2,zh (Or.inl HG3.out)⟩|exact ⟨d1,d2,zh (Or.inl (HG3.out.keep (Below.refl _ _).drew))⟩|go_keep) (first|(go_at_call 88;(with_reducible refine(KL1.out _ (zHT (by assumption))).mono ?_);rintro e w' ⟨rfl,hb⟩)|(go_at_call 84;(with_reducible refine(K5.out _ (held5 (by assumption))).mono ?_);rintro e w' ⟨rfl,hA⟩))
        all_goals
         go_wp2_with fail
         go_meet
         exact hA.2.2.2
     case rest=>
     have HG4:=hcut
     clear hcut HG3 d1 d2
     have d1:=HG4.out.cell (b:=bm) (j:=1) (u:= .slice pp PN cp) (cs:= #[.string m.name,.slice pp PN cp,.slice pb BN cb]) (t:=62) (List.mem_cons_self ..) rfl
     go_wp2_with fail
     refine(KR1.out _ HG4.out.below).mono ?_
     rintro e w6 ⟨rfl,hb6⟩
     have HG5:=zh (HG4.out.keep hb6)
     clear hb6 d1 HG4
     go_wp2_with fail
     refine(zAY P2 6 _ _ _ c _ _ _ (by omega) HG5.out.place).mono ?_
     rintro e w7 ⟨rfl,hP7,hg7⟩
     have HG6:Hid (FSt w [(bm,(.cells #[.string m.name,.slice pp PN cp,.slice pb BN cb] 62)),(bc,(.cells #[.string c.name,.bool c.actor,.slice pf FN cf,.slice (some ⟨b2,o2,none⟩) MN cm] 55)),(w.heap.size,(.cells #[.slice (some ⟨b,oo,none⟩) CN cpv] 24))] P2 (.slice (some ⟨b,oo,none⟩) CN cpv) c (.slice pf FN cf) (.slice (some ⟨b2,o2,none⟩) MN cm) (fun t=>t == 4 && decide (gi<k)||t == 5 && decide (8<PN∨30<PN+LN)||t == 6 && Ck.twice m.params) u3 rws w7):=zh ((HG5.out.next hP7 hg7).congr (fun t=>by rfl))
     clear hP7 hg7 HG5
     have HG7:Hid (FSt w [(bm,(.cells #[.string m.name,.slice pp PN cp,.slice pb BN cb] 62)),(bc,(.cells #[.string c.name,.bool c.actor,.slice pf FN cf,.slice (some ⟨b2,o2,none⟩) MN cm] 55)),(w.heap.size,(.cells #[.slice (some ⟨b,oo,none⟩) CN cpv] 24))] P2 (.slice (some ⟨b,oo,none⟩) CN cpv) c (.slice pf FN cf) (.slice (some ⟨b2,o2,none⟩) MN cm) (fun t=>t == 4 && decide (gi<k)||t == 5 && decide (8<PN∨30<PN+LN)||t == 6 && Ck.twice m.params) u3 rws (w7.alloc (.map #[] 0))):=zh (HG6.out.keep (zD _ _))
     have HS0:=zh (SetB.made w7)
     have hV:w.heap.size≤w7.heap.size:=HG6.out.below.size
     obtain⟨V,hVV⟩:∃q,w7.heap.size=q:=⟨_,rfl⟩
     obtain⟨w8,hw8⟩:∃q,q=w7.alloc (.map #[] 0):=⟨_,rfl⟩
     rw [←hw8] at HG7 HS0
     rw [hVV] at HS0 hV
     have HW8:=zh hw8
     have HVV:=zh hVV
     clear hw8 hVV
     have d1:=HG7.out.cell (b:=bm) (j:=1) (u:= .slice pp PN cp) (cs:= #[.string m.name,.slice pp PN cp,.slice pb BN cb]) (t:=62) (List.mem_cons_self ..) rfl
     go_upto_region 21 with fail
     rw [←HW8.out,HVV.out]
     clear HG6
     go_wp2_with fail
     clear d1
     go_loopg [123] PN (fun g s123 wr=>∃j:Nat,s123= .int .i64 j∧j≤PN∧g=PN -j∧Hid (SetB wr V j (m.params.take j))∧Hid (FSt w [(bm,(.cells #[.string m.name,.slice pp PN cp,.slice pb BN cb] 62)),(bc,(.cells #[.string c.name,.bool c.actor,.slice pf FN cf,.slice (some ⟨b2,o2,none⟩) MN cm] 55)),(w.heap.size,(.cells #[.slice (some ⟨b,oo,none⟩) CN cpv] 24))] P2 (.slice (some ⟨b,oo,none⟩) CN cpv) c (.slice pf FN cf) (.slice (some ⟨b2,o2,none⟩) MN cm) (fun t=>t == 4 && decide (gi<k)||t == 5 && decide (8<PN∨30<PN+LN)||t == 6 && Ck.twice m.params) u3 rws wr))
     case atStart=>exact ⟨0,rfl,Nat.zero_le _,rfl,HS0,HG7⟩
     case round=>
      obtain⟨j,rfl,hj,rfl,HSE,HSG⟩:=hrel
      by_cases hjl:j<PN
      ·obtain⟨x,hx⟩:∃x,m.params[j]? =some x:=⟨_,List.getElem?_eq_getElem (by rw [HPN.out];exact hjl)⟩
       obtain⟨p3,c3,e3,_,_,hcell⟩:=HSP.out.keep HSG.out.below
       injection e3 with e31 e32 e33
       subst e31
       clear e32 e33
       obtain⟨hsz,b3,o3,rfl,_,hc3⟩:=hcell j x hx
       have HX3:=zh hx
       clear hcell hx
       go_wp2_with (at_mapUpdate;refine zBQ _ rfl _ _ _ rfl V j (m.params.take j) rfl HSE.out (by unfold maxLen;omega) x hsz rfl rfl ?_;intro w9 hs9 hg9)
       have HSG2:=zh (HSG.out.map hV HSE.out hg9)
       go_roundg (PN -(j+1))
       case measure=>omega
       case rel=>exact ⟨j+1,by go_num,by omega,rfl,by rw [zA9 HX3.out];exact zh hs9,HSG2⟩
      ·have hfull:m.params.take j=m.params:=List.take_of_length_le (by rw [HPN.out];omega)
       have HSE2:=HSE.out
       rw [hfull] at HSE2
       have HSE3:=zh HSE2
       clear HSE2 hfull HSE
       have d2:=HSG.out.cell (b:=bm) (j:=2) (u:= .slice pb BN cb) (cs:= #[.string m.name,.slice pp PN cp,.slice pb BN cb]) (t:=62) (List.mem_cons_self ..) rfl
       go_wp2_with fail
       refine(zQ1 w cs _ HH.out c _ _ HSF.out HSMm.out P2 HSG.out.hP _ m.body _ _ _ V _ _ (Nat.le_refl _) HVB.out HSB.out HSG.out.below HSG.out.place HSE3.out (by rw [HLN.out];omega)).mono ?_
       rintro e w10 ⟨rfl,hP10,hg10⟩
       have HG8:Hid (FSt w [(bm,(.cells #[.string m.name,.slice pp PN cp,.slice pb BN cb] 62)),(bc,(.cells #[.string c.name,.bool c.actor,.slice pf FN cf,.slice (some ⟨b2,o2,none⟩) MN cm] 55)),(w.heap.size,(.cells #[.slice (some ⟨b,oo,none⟩) CN cpv] 24))] P2 (.slice (some ⟨b,oo,none⟩) CN cpv) c (.slice pf FN cf) (.slice (some ⟨b2,o2,none⟩) MN cm) (Ck.faultM cs c k m) u3 rws w10):=zh ((HSG.out.next hP10 hg10).congr (fun t=>by unfold Ck.faultM;rw [HGI.out,HPN.out,HLN.out]))
       clear hP10 hg10 d2 HSG
       have c0:=HG8.out.cell (b:=bc) (j:=0) (u:= .string c.name) (cs:= #[.string c.name,.bool c.actor,.slice pf FN cf,.slice (some ⟨b2,o2,none⟩) MN cm]) (t:=55) (List.mem_cons_of_mem _ (List.mem_cons_self ..)) rfl
       have d0:=HG8.out.cell (b:=bm) (j:=0) (u:= .string m.name) (cs:= #[.string m.name,.slice pp PN cp,.slice pb BN cb]) (t:=62) (List.mem_cons_self ..) rfl
       have hs6:¬9223372036854775807<6+c.name.size:=by omega
       have hs7:¬9223372036854775807<6+c.name.size+9:=by omega
       have hs8:¬9223372036854775807<6+c.name.size+9+m.name.size:=by omega
       go_wp2_with fail
       refine(zMH P2 _ _ _ c _ _ _ HG8.out.place).mono ?_
       rintro e w11 ⟨lv,rfl,ho8,hb8⟩
       have HG9:=zh (HG8.out.keep hb8)
       have HO8:=zh ho8
       clear hb8 ho8 c0 d0 HG8
       go_wp2_with (at_builtin;refine zBW _ rfl _ _ 96 rfl w.heap.size 99 i0 (.agg #[.string ⟨#[]⟩,.int .i64 0]) 2 24 Tryz.underlying96 hi0 hz0 hz1 hz2 rfl (by decide) _ _ _ rfl HG9.out.own lv _ _ _ rfl HO8.out (zFD _ _) (by unfold maxLen;omega) (by omega) HG9.out.below.size ?_;intro v7 w7 ho7 hg7)
       have HGA:Hid (FS0 w [(bm,(.cells #[.string m.name,.slice pp PN cp,.slice pb BN cb] 62)),(bc,(.cells #[.string c.name,.bool c.actor,.slice pf FN cf,.slice (some ⟨b2,o2,none⟩) MN cm] 55)),(w.heap.size,(.cells #[.slice (some ⟨b,oo,none⟩) CN cpv] 24))] v7 (rws++(Ck.found (Ck.faultM cs c k m)).map (fun t=>(Ck.mthText c m,t))) w7):=zh (HG9.out.app (more:=(Ck.found (Ck.faultM cs c k m)).map (fun t=>(Ck.mthText c m,t))) (List.length_map ..) (by rw [zE6];exact ho7) hg7).drop
       go_roundg (MN -(k+1))
       case measure=>omega
       case rel=>
        refine⟨k+1,by go_num,by omega,rfl,zh ?_⟩
        have h9:=HGA.out.less (K:= [(bc,(.cells #[.string c.name,.bool c.actor,.slice pf FN cf,.slice (some ⟨b2,o2,none⟩) MN cm] 55)),(w.heap.size,(.cells #[.slice (some ⟨b,oo,none⟩) CN cpv] 24))]) (fun x hx=>List.mem_cons_of_mem _ hx)
        rw [zA9 HY.out,Ck.zHJ,Nat.zero_add,List.length_take,HMN.out,Nat.min_eq_left (by omega),←List.append_assoc,HRW.out]
        exact h9
    ·go_wp2_with fail
     go_roundg (CN -(i+1))
     case measure=>omega
     case rel=>
      refine⟨i+1,by go_num,by omega,rfl,zh ?_⟩
      have hfull:c.methods.take k=c.methods:=List.take_of_length_le (by rw [HMN.out];omega)
      have h9:=HMT.out
      rw [hfull,List.append_assoc] at h9
      rw [zA9 HX.out,Ck.zHK,Nat.zero_add,List.length_take,HCN.out,Nat.min_eq_left (by omega)]
      exact h9.less (fun x hx=>List.mem_cons_of_mem _ hx)
  ·go_wp2_with fail
   go_ret
   have hfull:cs.take i=cs:=List.take_of_length_le (by rw [HCN.out];omega)
   have h9:=HST.out
   rw [hfull] at h9
   exact⟨_,rfl,h9.own,h9.below⟩
end Go.Proofs.YtcnmfcgmnkncaaaGreatDoor
