/-
  Several texts in one: CoEff, CoSoundB.
-/
import Derived.Test.YtcnmfcgmnkncaaaGreatDoorJ30
namespace Go.Proofs.YtcnmfcgmnkncaaaGreatDoor
namespace Cw
open Go.RowKit Go.Maps Pw
set_option maxRecDepth 100000
def oMost (o:Int):Int:=if o=0 then 2305843009213693951 else if o=3∨o=4∨o=7∨o=9 then 29 else if o=6∨o=8∨o=24∨o=21 then 1023 else if o=10∨o=11 then 60 else if o=16 then 10 else if o=18∨o=19∨o=20 then 4000 else 0
def oArgs (o:Int):Int:=if o=10∨o=11 then 30 else if o=21 then 8 else 0
def oLeast (o:Int):Int:=if o=0 then -2305843009213693952 else if o=10∨o=11 then 1 else 0
def oCnt (o:Int):Bool:=decide (o=10∨o=11∨o=21)
def oName (o:Int):ByteArray:= [⟨#[112,117,115,104]⟩,⟨#[110,105,108]⟩,⟨#[116,104,105,115]⟩,⟨#[108,111,97,100]⟩,⟨#[115,116,111,114,101]⟩,⟨#[112,111,112]⟩,⟨#[102,105,101,108,100]⟩,⟨#[111,119,110]⟩,⟨#[115,101,116,102,105,101,108,100]⟩,⟨#[115,101,116,111,119,110]⟩,⟨#[110,101,119]⟩,⟨#[110,101,119,97,116]⟩,⟨#[119,101,97,107]⟩,⟨#[103,101,116]⟩,⟨#[110,101,103]⟩,⟨#[110,111,116]⟩,⟨#[98,105,110,97,114,121]⟩,⟨#[116,114,117,116,104]⟩,⟨#[106,117,109,112]⟩,⟨#[106,117,109,112,102,97,108,115,101]⟩,⟨#[106,117,109,112,116,114,117,101]⟩,⟨#[115,101,110,100]⟩,⟨#[112,114,105,110,116]⟩,⟨#[109,111,118,101]⟩,⟨#[119,97,116,99,104]⟩,⟨#[114,101,116,117,114,110]⟩].getD o.toNat ⟨#[]⟩
def oText (o:Int):Value:= [.func (.func 108) #[] #[],.nilFunc,.nilFunc,.func (.func 108) #[] #[],.func (.func 108) #[] #[],.nilFunc,.func (.func 109) #[] #[],.func (.func 108) #[] #[],.func (.func 109) #[] #[],.func (.func 108) #[] #[],.func (.func 110) #[] #[],.func (.func 110) #[] #[],.nilFunc,.nilFunc,.nilFunc,.nilFunc,.func (.func 111) #[] #[],.nilFunc,.func (.func 108) #[] #[],.func (.func 108) #[] #[],.func (.func 108) #[] #[],.func (.func 112) #[] #[],.nilFunc,.nilFunc,.func (.func 109) #[] #[],.nilFunc].getD o.toNat .nilFunc
def opRow (o:Int):Array Value:= #[.string (oName o),.int .i64 (oMost o),.int .i64 (oArgs o),.int .i64 (oLeast o),.int .i64 (Co.pops o 0),.int .i64 (Co.pushes o),.bool (oCnt o),oText o]
theorem zFN {p:Int→Prop} (h:∀k:Nat,k<26→p k) {o:Int} (h0:0≤o) (h1:o<26):p o:=by
 have:=h o.toNat (by omega)
 rwa [Int.toNat_of_nonneg h0] at this
theorem zTS:∀k:Nat,k<26→opCells.extract (k*8) (k*8+8)=opRow k
 |0,_=>by kernel_rfl
 |1,_=>by kernel_rfl
 |2,_=>by kernel_rfl
 |3,_=>by kernel_rfl
 |4,_=>by kernel_rfl
 |5,_=>by kernel_rfl
 |6,_=>by kernel_rfl
 |7,_=>by kernel_rfl
 |8,_=>by kernel_rfl
 |9,_=>by kernel_rfl
 |10,_=>by kernel_rfl
 |11,_=>by kernel_rfl
 |12,_=>by kernel_rfl
 |13,_=>by kernel_rfl
 |14,_=>by kernel_rfl
 |15,_=>by kernel_rfl
 |16,_=>by kernel_rfl
 |17,_=>by kernel_rfl
 |18,_=>by kernel_rfl
 |19,_=>by kernel_rfl
 |20,_=>by kernel_rfl
 |21,_=>by kernel_rfl
 |22,_=>by kernel_rfl
 |23,_=>by kernel_rfl
 |24,_=>by kernel_rfl
 |25,_=>by kernel_rfl
 |n+26,h=>absurd h (by omega)
theorem zTT:∀k:Nat,k<26→¬(oName k).toList= []
 |0,_=>by decide+kernel
 |1,_=>by decide+kernel
 |2,_=>by decide+kernel
 |3,_=>by decide+kernel
 |4,_=>by decide+kernel
 |5,_=>by decide+kernel
 |6,_=>by decide+kernel
 |7,_=>by decide+kernel
 |8,_=>by decide+kernel
 |9,_=>by decide+kernel
 |10,_=>by decide+kernel
 |11,_=>by decide+kernel
 |12,_=>by decide+kernel
 |13,_=>by decide+kernel
 |14,_=>by decide+kernel
 |15,_=>by decide+kernel
 |16,_=>by decide+kernel
 |17,_=>by decide+kernel
 |18,_=>by decide+kernel
 |19,_=>by decide+kernel
 |20,_=>by decide+kernel
 |21,_=>by decide+kernel
 |22,_=>by decide+kernel
 |23,_=>by decide+kernel
 |24,_=>by decide+kernel
 |25,_=>by decide+kernel
 |n+26,h=>absurd h (by omega)
theorem zPL:∀k:Nat,k<26→(oText k).oneCell'=true
 |0,_=>by kernel_rfl
 |1,_=>by kernel_rfl
 |2,_=>by kernel_rfl
 |3,_=>by kernel_rfl
 |4,_=>by kernel_rfl
 |5,_=>by kernel_rfl
 |6,_=>by kernel_rfl
 |7,_=>by kernel_rfl
 |8,_=>by kernel_rfl
 |9,_=>by kernel_rfl
 |10,_=>by kernel_rfl
 |11,_=>by kernel_rfl
 |12,_=>by kernel_rfl
 |13,_=>by kernel_rfl
 |14,_=>by kernel_rfl
 |15,_=>by kernel_rfl
 |16,_=>by kernel_rfl
 |17,_=>by kernel_rfl
 |18,_=>by kernel_rfl
 |19,_=>by kernel_rfl
 |20,_=>by kernel_rfl
 |21,_=>by kernel_rfl
 |22,_=>by kernel_rfl
 |23,_=>by kernel_rfl
 |24,_=>by kernel_rfl
 |25,_=>by kernel_rfl
 |n+26,h=>absurd h (by omega)
theorem zTV:(Tryz.prog.info? 130).map (·.size)=some 8:=by kernel_rfl
theorem zID {o:Int} (h0:0≤o) (h1:o<26) (w:World):(Instr.index 131 (.agg opCells) (.int .i64 o)).run Tryz.prog w= .ok (.agg (opRow o)) w:=by
 have hr:opCells.extract (o.toNat*8) (o.toNat*8+8)=opRow o:=zFN (p:=fun o=>opCells.extract (o.toNat*8) (o.toNat*8+8)=opRow o) (fun k hk=>zTS k hk) h0 h1
 have hi:=zTV
 cases hq:Tryz.prog.info? 130 with
 |none=>rw [hq] at hi;cases hi
 |some i=>
  have hs:i.size=8:=by rw [hq] at hi;simpa using hi
  simp [Instr.index,asIntOf,run_underlying Tryz.underlying131,sizeOf,typeInfo,hq,hs,h0,h1,part,isAgg,run_underlying Tryz.underlying130,hr]
theorem zR2 (o:Int) (w:World):(Instr.field 130 (.agg (opRow o)) 0).run Tryz.prog w= .ok (.string (oName o)) w:=by
 simp [Instr.field,run_underlying Tryz.underlying130,part,isAgg,run_underlying Tryz.underlying9,asAgg,opRow]
theorem zMC {o:Int} (h:(oText o).oneCell'=true):(opRow o).all (·.oneCell')=true:=by
 rw [Array.all_eq_true_iff_forall_mem]
 intro x hx
 simp only [opRow,List.mem_toArray,List.mem_cons,List.not_mem_nil,or_false] at hx
 rcases hx with rfl|rfl|rfl|rfl|rfl|rfl|rfl|rfl
 all_goals first|rfl|exact h
structure Vd (x:Co.Ins):Prop where
 op:0≤x.1∧x.1<26
 a:oLeast x.1≤x.2.1∧x.2.1≤oMost x.1
 b:0≤x.2.2∧x.2.2≤oArgs x.1
set_option maxHeartbeats 1000000 in
theorem zON (o:Int) (h0:0≤o) (h1:o<26) (w:World):Calls Tryz.prog 75 #[.int .i64 o] w fun e w'=>e= .returned (.string (oName o))∧Below w.heap.size w w':=by
 have HX:=zh (fun w=>zID h0 h1 w)
 have HB0:=zh (Below.refl w.heap.size w)
 unfold opRow at HX
 go_enter Tryz.func75,Tryz.ntmps75
 go_wp2_with fail
 refine(zAN _).mono ?_
 rintro e w1 ⟨rfl,hb1⟩
 have HB1:=zh (HB0.out.trans (hb1.mono HB0.out.size))
 clear HB0 hb1
 go_wp2_with fail
 refine(zAN _).mono ?_
 rintro e w2 ⟨rfl,hb2⟩
 have HB2:=zh (HB1.out.trans (hb2.mono HB1.out.size))
 clear HB1 hb2
 have hx:=HX.out
 have hf:=fun w=>zR2 o w
 unfold opRow at hf
 go_wp2_with fail
 go_ret
 exact⟨rfl,HB2.out⟩
set_option maxRecDepth 100000 in
set_option maxHeartbeats 4000000 in
theorem zLV (x:Co.Ins) (h:Vd x) (w:World):Calls Tryz.prog 52 #[.agg #[.int .i64 x.1,.int .i64 x.2.1,.int .i64 x.2.2]] w fun e w'=>e= .returned (.bool true)∧Below w.heap.size w w':=by
 obtain⟨o,a,b⟩:=x
 have hv:=h
 obtain⟨⟨h0,h1⟩,⟨ha0,ha1⟩,⟨hb0,hb1⟩⟩:=h
 dsimp only at h0 h1 ha0 ha1 hb0 hb1
 have HX:=zh (fun w=>zID h0 h1 w)
 unfold opRow at HX
 have HT:Hid ((oText o).oneCell'=true):=zh (zFN (p:=fun o=>(oText o).oneCell'=true) zPL h0 h1)
 have HV:=zh hv
 have C0:=zh (Mo.start w)
 clear hv
 have HN:Hid (¬(oName o).toList= []):=zh (zFN (p:=fun o=>¬(oName o).toList= []) zTT h0 h1)
 have HA:=zh (⟨ha0,ha1,hb0,hb1⟩:oLeast o≤a∧a≤oMost o∧0≤b∧b≤oArgs o)
 have HO:=zh (⟨h0,h1⟩:0≤o∧o<26)
 clear h0 h1 ha0 ha1 hb0 hb1
 obtain⟨I,w1,HX,HW,hx1,C1⟩:=C0.out.boxE #[.int .i64 o,.int .i64 a,.int .i64 b] 65
 go_enter Tryz.func52,Tryz.ntmps52
 go_upto_region 1 with fail
 rw [←HX.out,←HW.out]
 clear HX HW C0
 have C2:=zh (Mz.foldA3 C1.out)
 clear C1
 have qI:w1.cell? ⟨I,0,none⟩=some (.int .i64 o)∧w1.cell? ⟨I,1,none⟩=some (.int .i64 a)∧w1.cell? ⟨I,2,none⟩=some (.int .i64 b):=(C2.out.rd 0 rfl)
 go_wp2_with fail
 clear qI
 have hk:=zON o HO.out.1 HO.out.2 w1
 refine hk.mono ?_
 clear hk
 rintro e w3 ⟨rfl,hb9⟩
 have C3:=zh (Mz.below C2.out hb9)
 clear hb9 C2
 have hn:=HN.out
 have hn2:((oName o).toList == [])=false:=beq_eq_false_iff_ne.2 hn
 go_upto_region 3 with fail
 clear hn hn2
 obtain⟨w1,hw1⟩:∃q,q=w3:=⟨_,rfl⟩
 rw [←hw1] at C3 ⊢
 have C1:=C3
 clear hw1 C3
 go_cut [3] (fun s3 wx=>∃X:Nat,s3= .pointer (some ⟨X,0,none⟩)∧Hid (Mz 0 0 w [] (fun _=>True) [] [(X,#[.string (oName o),.int .i64 (oMost o),.int .i64 (oArgs o),.int .i64 (oLeast o),.int .i64 (Co.pops o 0),.int .i64 (Co.pushes o),.bool (oCnt o),oText o],130)] [A3 I (.int .i64 o) (.int .i64 a) (.int .i64 b)] wx))
 case first=>
  obtain⟨w4,HW,C4⟩:=C1.out.drewE
  refine wp_region_held_drew (S:=fun W=>W.cell? ⟨I,0,none⟩=some (.int .i64 o)∧W.cell? ⟨I,1,none⟩=some (.int .i64 a)∧W.cell? ⟨I,2,none⟩=some (.int .i64 b)) (by kernel_rfl) (by rw [←HW.out];exact⟨(C4.out.rd 0 rfl).1,(C4.out.rd 0 rfl).2.1,(C4.out.rd 0 rfl).2.2⟩) (fun hHeld=>?_)
  rw [←HW.out] at hHeld ⊢
  clear HW C1
  refine rU 1 (some 9) ?_
  refine rU 2 (some 10) ?_
  clear hHeld
  refine rR2 0 (some 8) 4 (some 3) (fun K hK=>?_) (fun K hK=>?_)
  ·go_simp
   refine(zAN _).mono ?_
   rintro e w5 ⟨rfl,hb9⟩
   have C5:=zh (Mz.below C4.out hb9)
   clear hb9 C4
   go_wp2_with fail
   refine hK.out _ _ ?_ (fun hHeld=>?_)
   ·exact⟨(C5.out.rd 0 rfl).1,(C5.out.rd 0 rfl).2.1,(C5.out.rd 0 rfl).2.2⟩
   clear hK K
   try simp only [Act.put,q0,q1,q2]
   have hx:=HX.out
   refine rU 3 (some 11) ?_
   clear hHeld hx
   refine rR1 4 (some 3) (fun K hK=>?_)
   obtain⟨X,w6,HX9,HW,hx6,C6⟩:=C5.out.boxE #[.string ⟨#[]⟩,.int .i64 0,.int .i64 0,.int .i64 0,.int .i64 0,.int .i64 0,.bool false,.nilFunc] 130
   go_simp
   rw [←HX9.out,←HW.out]
   clear HX9 HW C5
   refine hK.out _ _ ?_ (fun hHeld=>?_)
   ·exact⟨(C6.out.rd 0 rfl).1,(C6.out.rd 0 rfl).2.1,(C6.out.rd 0 rfl).2.2⟩
   clear hK K
   try simp only [Act.put,q0,q1,q2]
   clear hHeld
   refine rR1 5 none (fun K hK=>?_)
   rw [if_pos (by rfl)]
   obtain⟨w7,HW,C7⟩:=C6.out.setRowE 0 rfl #[.string (oName o),.int .i64 (oMost o),.int .i64 (oArgs o),.int .i64 (oLeast o),.int .i64 (Co.pops o 0),.int .i64 (Co.pushes o),.bool (oCnt o),oText o]
   dsimp only [List.set] at C7
   refine wp_store_row _ _ _ rfl X #[.string (oName o),.int .i64 (oMost o),.int .i64 (oArgs o),.int .i64 (oLeast o),.int .i64 (Co.pops o 0),.int .i64 (Co.pushes o),.bool (oCnt o),oText o] rfl rfl 130 #[.string ⟨#[]⟩,.int .i64 0,.int .i64 0,.int .i64 0,.int .i64 0,.int .i64 0,.bool false,.nilFunc] (C6.out.b 0 rfl) (by kernel_rfl) rfl (zMC HT.out) ?_
   rw [←HW.out]
   clear HW C6
   refine hK.out _ _ ?_ (fun hHeld=>?_)
   ·exact⟨(C7.out.rd 0 rfl).1,(C7.out.rd 0 rfl).2.1,(C7.out.rd 0 rfl).2.2⟩
   clear hK K
   simp only [Act.put]
   refine wpAnyH_done (by kernel_rfl) ?_ _
   clear hHeld
   go_wp2_with fail
   go_meet
   exact⟨X,rfl,C7⟩
  ·obtain⟨X,w8,HX9,HW,hx8,C8⟩:=C4.out.boxE #[.string ⟨#[]⟩,.int .i64 0,.int .i64 0,.int .i64 0,.int .i64 0,.int .i64 0,.bool false,.nilFunc] 130
   go_simp
   rw [←HX9.out,←HW.out]
   clear HX9 HW C4
   refine hK.out _ _ ?_ (fun hHeld=>?_)
   ·exact⟨(C8.out.rd 0 rfl).1,(C8.out.rd 0 rfl).2.1,(C8.out.rd 0 rfl).2.2⟩
   clear hK K
   try simp only [Act.put,q0,q1,q2]
   clear hHeld
   refine rR1 0 (some 8) (fun K hK=>?_)
   go_simp
   refine(zAN _).mono ?_
   rintro e w9 ⟨rfl,hb9⟩
   have C9:=zh (Mz.below C8.out hb9)
   clear hb9 C8
   go_wp2_with fail
   refine hK.out _ _ ?_ (fun hHeld=>?_)
   ·exact⟨(C9.out.rd 0 rfl).1,(C9.out.rd 0 rfl).2.1,(C9.out.rd 0 rfl).2.2⟩
   clear hK K
   try simp only [Act.put,q0,q1,q2]
   have hx:=HX.out
   refine rU 3 (some 11) ?_
   clear hHeld hx
   refine rR1 5 none (fun K hK=>?_)
   rw [if_pos (by rfl)]
   obtain⟨w10,HW,C10⟩:=C9.out.setRowE 0 rfl #[.string (oName o),.int .i64 (oMost o),.int .i64 (oArgs o),.int .i64 (oLeast o),.int .i64 (Co.pops o 0),.int .i64 (Co.pushes o),.bool (oCnt o),oText o]
   dsimp only [List.set] at C10
   refine wp_store_row _ _ _ rfl X #[.string (oName o),.int .i64 (oMost o),.int .i64 (oArgs o),.int .i64 (oLeast o),.int .i64 (Co.pops o 0),.int .i64 (Co.pushes o),.bool (oCnt o),oText o] rfl rfl 130 #[.string ⟨#[]⟩,.int .i64 0,.int .i64 0,.int .i64 0,.int .i64 0,.int .i64 0,.bool false,.nilFunc] (C9.out.b 0 rfl) (by kernel_rfl) rfl (zMC HT.out) ?_
   rw [←HW.out]
   clear HW C9
   refine hK.out _ _ ?_ (fun hHeld=>?_)
   ·exact⟨(C10.out.rd 0 rfl).1,(C10.out.rd 0 rfl).2.1,(C10.out.rd 0 rfl).2.2⟩
   clear hK K
   simp only [Act.put]
   refine wpAnyH_done (by kernel_rfl) ?_ _
   clear hHeld
   go_wp2_with fail
   go_meet
   exact⟨X,rfl,C10⟩
 case rest=>
 clear C1
 obtain⟨X,rfl,CW⟩:=hcut
 have qx:=cells8 (CW.out.b 0 rfl)
 have qi:wc.cell? ⟨I,0,none⟩=some (.int .i64 o)∧wc.cell? ⟨I,1,none⟩=some (.int .i64 a)∧wc.cell? ⟨I,2,none⟩=some (.int .i64 b):=CW.out.rd 0 rfl
 obtain⟨ha0,ha1,hb0,hb1⟩:=HA.out
 go_wp2_with fail
 go_ret
 exact⟨rfl,CW.out.gr.fresh⟩
set_option maxRecDepth 100000 in
set_option maxHeartbeats 4000000 in
theorem zKJ (x:Co.Ins) (h:Vd x) (w:World):Calls Tryz.prog 51 #[.agg #[.int .i64 x.1,.int .i64 x.2.1,.int .i64 x.2.2]] w fun e w'=>e= .returned (.tuple #[.int .i64 (Co.pops x.1 x.2.2),.int .i64 (Co.pushes x.1)])∧Below w.heap.size w w':=by
 obtain⟨o,a,b⟩:=x
 have hv:=h
 obtain⟨⟨h0,h1⟩,⟨ha0,ha1⟩,⟨hb0,hb1⟩⟩:=h
 dsimp only at h0 h1 ha0 ha1 hb0 hb1
 have HX:=zh (fun w=>zID h0 h1 w)
 unfold opRow at HX
 have HT:Hid ((oText o).oneCell'=true):=zh (zFN (p:=fun o=>(oText o).oneCell'=true) zPL h0 h1)
 have HV:=zh hv
 have C0:=zh (Mo.start w)
 clear hv
 have HO:=zh (⟨h0,h1⟩:0≤o∧o<26)
 have HBB:Hid (0≤b∧b≤30):=zh ⟨hb0,by unfold oArgs at hb1;repeat' split at hb1;all_goals omega⟩
 clear h0 h1 ha0 ha1 hb0 hb1
 obtain⟨I,w11,HX,HW,hx11,C11⟩:=C0.out.boxE #[.int .i64 o,.int .i64 a,.int .i64 b] 65
 go_enter Tryz.func51,Tryz.ntmps51
 go_upto_region 1 with fail
 rw [←HX.out,←HW.out]
 clear HX HW C0
 have C12:=zh (Mz.foldA3 C11.out)
 clear C11
 have qI:w11.cell? ⟨I,0,none⟩=some (.int .i64 o)∧w11.cell? ⟨I,1,none⟩=some (.int .i64 a)∧w11.cell? ⟨I,2,none⟩=some (.int .i64 b):=(C12.out.rd 0 rfl)
 go_wp2_with fail
 clear qI
 have hk:=zLV (o,a,b) HV.out w11
 refine hk.mono ?_
 clear hk
 rintro e w13 ⟨rfl,hb9⟩
 have C13:=zh (Mz.below C12.out hb9)
 clear hb9 C12
 go_upto_region 3 with fail
 obtain⟨w1,hw1⟩:∃q,q=w13:=⟨_,rfl⟩
 rw [←hw1] at C13 ⊢
 have C1:=C13
 clear hw1 C13
 go_cut [4] (fun s4 wx=>∃X:Nat,s4= .pointer (some ⟨X,0,none⟩)∧Hid (Mz 0 0 w [] (fun _=>True) [] [(X,#[.string (oName o),.int .i64 (oMost o),.int .i64 (oArgs o),.int .i64 (oLeast o),.int .i64 (Co.pops o 0),.int .i64 (Co.pushes o),.bool (oCnt o),oText o],130)] [A3 I (.int .i64 o) (.int .i64 a) (.int .i64 b)] wx))
 case first=>
  obtain⟨w14,HW,C14⟩:=C1.out.drewE
  refine wp_region_held_drew (S:=fun W=>W.cell? ⟨I,0,none⟩=some (.int .i64 o)∧W.cell? ⟨I,1,none⟩=some (.int .i64 a)∧W.cell? ⟨I,2,none⟩=some (.int .i64 b)) (by kernel_rfl) (by rw [←HW.out];exact⟨(C14.out.rd 0 rfl).1,(C14.out.rd 0 rfl).2.1,(C14.out.rd 0 rfl).2.2⟩) (fun hHeld=>?_)
  rw [←HW.out] at hHeld ⊢
  clear HW C1
  refine rU 1 (some 9) ?_
  refine rU 2 (some 10) ?_
  clear hHeld
  refine rR2 0 (some 8) 4 (some 4) (fun K hK=>?_) (fun K hK=>?_)
  ·go_simp
   refine(zAN _).mono ?_
   rintro e w15 ⟨rfl,hb9⟩
   have C15:=zh (Mz.below C14.out hb9)
   clear hb9 C14
   go_wp2_with fail
   refine hK.out _ _ ?_ (fun hHeld=>?_)
   ·exact⟨(C15.out.rd 0 rfl).1,(C15.out.rd 0 rfl).2.1,(C15.out.rd 0 rfl).2.2⟩
   clear hK K
   try simp only [Act.put,q0,q1,q2]
   have hx:=HX.out
   refine rU 3 (some 11) ?_
   clear hHeld hx
   refine rR1 4 (some 4) (fun K hK=>?_)
   obtain⟨X,w16,HX9,HW,hx16,C16⟩:=C15.out.boxE #[.string ⟨#[]⟩,.int .i64 0,.int .i64 0,.int .i64 0,.int .i64 0,.int .i64 0,.bool false,.nilFunc] 130
   go_simp
   rw [←HX9.out,←HW.out]
   clear HX9 HW C15
   refine hK.out _ _ ?_ (fun hHeld=>?_)
   ·exact⟨(C16.out.rd 0 rfl).1,(C16.out.rd 0 rfl).2.1,(C16.out.rd 0 rfl).2.2⟩
   clear hK K
   try simp only [Act.put,q0,q1,q2]
   clear hHeld
   refine rR1 5 none (fun K hK=>?_)
   rw [if_pos (by rfl)]
   obtain⟨w17,HW,C17⟩:=C16.out.setRowE 0 rfl #[.string (oName o),.int .i64 (oMost o),.int .i64 (oArgs o),.int .i64 (oLeast o),.int .i64 (Co.pops o 0),.int .i64 (Co.pushes o),.bool (oCnt o),oText o]
   dsimp only [List.set] at C17
   refine wp_store_row _ _ _ rfl X #[.string (oName o),.int .i64 (oMost o),.int .i64 (oArgs o),.int .i64 (oLeast o),.int .i64 (Co.pops o 0),.int .i64 (Co.pushes o),.bool (oCnt o),oText o] rfl rfl 130 #[.string ⟨#[]⟩,.int .i64 0,.int .i64 0,.int .i64 0,.int .i64 0,.int .i64 0,.bool false,.nilFunc] (C16.out.b 0 rfl) (by kernel_rfl) rfl (zMC HT.out) ?_
   rw [←HW.out]
   clear HW C16
   refine hK.out _ _ ?_ (fun hHeld=>?_)
   ·exact⟨(C17.out.rd 0 rfl).1,(C17.out.rd 0 rfl).2.1,(C17.out.rd 0 rfl).2.2⟩
   clear hK K
   simp only [Act.put]
   refine wpAnyH_done (by kernel_rfl) ?_ _
   clear hHeld
   go_wp2_with fail
   go_meet
   exact⟨X,rfl,C17⟩
  ·obtain⟨X,w18,HX9,HW,hx18,C18⟩:=C14.out.boxE #[.string ⟨#[]⟩,.int .i64 0,.int .i64 0,.int .i64 0,.int .i64 0,.int .i64 0,.bool false,.nilFunc] 130
   go_simp
   rw [←HX9.out,←HW.out]
   clear HX9 HW C14
   refine hK.out _ _ ?_ (fun hHeld=>?_)
   ·exact⟨(C18.out.rd 0 rfl).1,(C18.out.rd 0 rfl).2.1,(C18.out.rd 0 rfl).2.2⟩
   clear hK K
   try simp only [Act.put,q0,q1,q2]
   clear hHeld
   refine rR1 0 (some 8) (fun K hK=>?_)
   go_simp
   refine(zAN _).mono ?_
   rintro e w19 ⟨rfl,hb9⟩
   have C19:=zh (Mz.below C18.out hb9)
   clear hb9 C18
   go_wp2_with fail
   refine hK.out _ _ ?_ (fun hHeld=>?_)
   ·exact⟨(C19.out.rd 0 rfl).1,(C19.out.rd 0 rfl).2.1,(C19.out.rd 0 rfl).2.2⟩
   clear hK K
   try simp only [Act.put,q0,q1,q2]
   have hx:=HX.out
   refine rU 3 (some 11) ?_
   clear hHeld hx
   refine rR1 5 none (fun K hK=>?_)
   rw [if_pos (by rfl)]
   obtain⟨w20,HW,C20⟩:=C19.out.setRowE 0 rfl #[.string (oName o),.int .i64 (oMost o),.int .i64 (oArgs o),.int .i64 (oLeast o),.int .i64 (Co.pops o 0),.int .i64 (Co.pushes o),.bool (oCnt o),oText o]
   dsimp only [List.set] at C20
   refine wp_store_row _ _ _ rfl X #[.string (oName o),.int .i64 (oMost o),.int .i64 (oArgs o),.int .i64 (oLeast o),.int .i64 (Co.pops o 0),.int .i64 (Co.pushes o),.bool (oCnt o),oText o] rfl rfl 130 #[.string ⟨#[]⟩,.int .i64 0,.int .i64 0,.int .i64 0,.int .i64 0,.int .i64 0,.bool false,.nilFunc] (C19.out.b 0 rfl) (by kernel_rfl) rfl (zMC HT.out) ?_
   rw [←HW.out]
   clear HW C19
   refine hK.out _ _ ?_ (fun hHeld=>?_)
   ·exact⟨(C20.out.rd 0 rfl).1,(C20.out.rd 0 rfl).2.1,(C20.out.rd 0 rfl).2.2⟩
   clear hK K
   simp only [Act.put]
   refine wpAnyH_done (by kernel_rfl) ?_ _
   clear hHeld
   go_wp2_with fail
   go_meet
   exact⟨X,rfl,C20⟩
 case rest=>
 clear C1
 obtain⟨X,rfl,CW⟩:=hcut
 obtain⟨w2,hw2⟩:∃q,q=wc:=⟨_,rfl⟩
 rw [←hw2] at CW ⊢
 clear hw2
 cases hcn:oCnt o
 ·rw [hcn] at CW
  have hpo:Co.pops o b=Co.pops o 0:=by have h9:=of_decide_eq_false hcn;unfold Co.pops;rw [if_neg (show ¬o=10 from by omega),if_neg (show ¬(o=11∨o=21) from by omega),if_neg (show ¬o=10 from by omega),if_neg (show ¬(o=11∨o=21) from by omega)]
  have HP:=zh hpo
  clear hpo hcn
  have qx:=cells8 (CW.out.b 0 rfl)
  go_upto_region 6 with fail
  clear qx
  obtain⟨wd,HW,CD⟩:=CW.out.drewE
  refine wp_region_held_drew (S:=fun W=>W.cell? ⟨X,4,none⟩=some (.int .i64 (Co.pops o 0))∧W.cell? ⟨X,5,none⟩=some (.int .i64 (Co.pushes o))) (by kernel_rfl) (by rw [←HW.out];exact⟨zB (CD.out.b 0 rfl) (j:=4) rfl,zB (CD.out.b 0 rfl) (j:=5) rfl⟩) (fun hHeld=>?_)
  rw [←HW.out] at hHeld ⊢
  clear HW
  refine rU 0 (some 20) ?_
  refine rU 1 (some 21) ?_
  refine rU 2 (some 22) ?_
  refine rU 3 (some 23) ?_
  refine rU 4 (some 2) ?_
  refine rU 5 (some 3) ?_
  refine wpAnyH_done (by kernel_rfl) ?_ _
  clear hHeld
  go_wp2_with fail
  go_ret2
  refine⟨?_,CD.out.gr.fresh⟩
  rw [HP.out]
  rfl
 ·rw [hcn] at CW
  have hpo:Co.pops o b=Co.pops o 0+b∧0≤Co.pops o 0∧Co.pops o 0≤1:=by
   have h9:=of_decide_eq_true hcn
   rcases h9 with rfl|rfl|rfl
   ·exact⟨by show b=0+b;omega,by decide,by decide⟩
   ·exact⟨by show b+1=0+1+b;omega,by decide,by decide⟩
   ·exact⟨by show b+1=0+1+b;omega,by decide,by decide⟩
  obtain⟨PO,hPO⟩:∃q,Co.pops o 0=q:=⟨_,rfl⟩
  rw [hPO] at hpo CW
  have HP:=zh hpo
  clear hpo hcn hPO
  have qx:=cells8 (CW.out.b 0 rfl)
  have qi:w2.cell? ⟨I,0,none⟩=some (.int .i64 o)∧w2.cell? ⟨I,1,none⟩=some (.int .i64 a)∧w2.cell? ⟨I,2,none⟩=some (.int .i64 b):=CW.out.rd 0 rfl
  obtain⟨hp1,hp2,hp3⟩:=HP.out
  obtain⟨hb0,hb1⟩:=HBB.out
  obtain⟨w3,HW3⟩:∃q,Hid (q=w2.setCell ⟨X,4,none⟩ (.int .i64 (PO+b))):=⟨_,zh rfl⟩
  have C3:=zh ((CW.out.set (W':=w3) 0 rfl (by rw [HW3.out];exact zH _ _ _ _) (by rw [HW3.out];exact heap_set (j:=4) _ (CW.out.b 0 rfl))).nrm (bs':= [(X,#[.string (oName o),.int .i64 (oMost o),.int .i64 (oArgs o),.int .i64 (oLeast o),.int .i64 (PO+b),.int .i64 (Co.pushes o),.bool true,oText o],130)]) rfl)
  go_upto_region 6 with fail
  rw [←HW3.out]
  clear qx qi HW3 CW hp1 hp2 hp3 hb0 hb1
  obtain⟨wd,HW,CD⟩:=C3.out.drewE
  refine wp_region_held_drew (S:=fun W=>W.cell? ⟨X,4,none⟩=some (.int .i64 (PO+b))∧W.cell? ⟨X,5,none⟩=some (.int .i64 (Co.pushes o))) (by kernel_rfl) (by rw [←HW.out];exact⟨zB (CD.out.b 0 rfl) (j:=4) rfl,zB (CD.out.b 0 rfl) (j:=5) rfl⟩) (fun hHeld=>?_)
  rw [←HW.out] at hHeld ⊢
  clear HW
  refine rU 0 (some 20) ?_
  refine rU 1 (some 21) ?_
  refine rU 2 (some 22) ?_
  refine rU 3 (some 23) ?_
  refine rU 4 (some 2) ?_
  refine rU 5 (some 3) ?_
  refine wpAnyH_done (by kernel_rfl) ?_ _
  clear hHeld
  go_wp2_with fail
  go_ret2
  refine⟨?_,CD.out.gr.fresh⟩
  rw [HP.out.1]
  rfl
end Cw
end Go.Proofs.YtcnmfcgmnkncaaaGreatDoor
namespace Go.Proofs.YtcnmfcgmnkncaaaGreatDoor
namespace Co
open Tr
theorem zOW (e:E):(top e).kind=2↔e.kind=2:=by
 rcases zDZ e with h|⟨n,h⟩
 ·rw [h]
 ·cases e with
  |mk k o i nm a l=>
   by_cases hk:k=8∨k=9∨k=10
   ·constructor
    ·intro h2
     rw [h] at h2
     rcases zAZ (.mk k o i nm a l) n with h3|⟨_,h3⟩|⟨_,_,h3⟩
     ·rw [h3] at h2
      exact h2
     ·rw [h3] at h2
      exact absurd h2 (by show ¬(0:Int)=2;decide)
     ·rw [h3] at h2
      exact absurd h2 (by show ¬(8:Int)=2;decide)
    ·intro h2
     have h3:k=2:=h2
     omega
   ·have h4:top (.mk k o i nm a l)= .mk k o i nm a l:=by
     unfold top
     exact if_neg hk
    rw [h4]
theorem zN8 (e:E):(fold e).kind=2↔e.kind=2:=by
 cases e with
 |mk k o i nm a l=>
  rw [fold]
  exact zOW _
theorem zHW (l:List E):Ck.headKind (folds l)=2↔Ck.headKind l=2:=by
 cases l with
 |nil=>rw [folds]
 |cons e r=>rw [folds];exact zN8 e
theorem zHZ (cs:List C) (fs vs:List ByteArray) (n:Int) (t:Nat):Ck.faultE cs fs vs (num n) t=false:=by
 unfold num
 rw [Ck.faultE,Ck.faultEs]
 rfl
theorem zOF {cs:List C} {fs vs:List ByteArray} {e:E} {t:Nat} (h:Ck.faultE cs fs vs e t=false):Ck.faultE cs fs vs (top e) t=false:=by
 rcases zDZ e with h1|⟨n,h1⟩
 ·rw [h1];exact h
 ·rw [h1]
  rcases zAZ e n with h2|⟨_,h2⟩|⟨_,_,h2⟩
  ·rw [h2];exact h
  ·rw [h2];exact zHZ ..
  ·rw [h2,Ck.faultE,Ck.faultEs,Ck.faultEs,zHZ]
   rfl
theorem zNK (cs:List C) (fs vs:List ByteArray) (k:Int) (nm:ByteArray) (a:Bool) (l:List E) (t:Nat):Ck.ownE cs fs vs k nm a (folds l) t=Ck.ownE cs fs vs k nm a l t:=by
 unfold Ck.ownE
 rw [zAB]
 have h:decide (Ck.headKind (folds l)=2)=decide (Ck.headKind l=2):=decide_eq_decide.2 (zHW l)
 rw [h]
mutual
theorem zLP (cs:List C) (fs vs:List ByteArray) (t:Nat):∀e:E,Ck.faultE cs fs vs e t=false→Ck.faultE cs fs vs (fold e) t=false
 | .mk k o i nm a l,h=>by
   rw [Ck.faultE,Bool.or_eq_false_iff] at h
   rw [fold]
   refine zOF ?_
   rw [Ck.faultE,zNK,h.1,zCL cs fs vs t l h.2]
   rfl
theorem zCL (cs:List C) (fs vs:List ByteArray) (t:Nat):∀l:List E,Ck.faultEs cs fs vs l t=false→Ck.faultEs cs fs vs (folds l) t=false
 | [],h=>by rw [folds];exact h
 |e::r,h=>by
  rw [Ck.faultEs,Bool.or_eq_false_iff] at h
  rw [folds,Ck.faultEs,zLP cs fs vs t e h.1,zCL cs fs vs t r h.2]
  rfl
end
theorem zDV (cs:List C) (fs vs:List ByteArray) (t:Nat):∀l:List E,Ck.faultEs cs fs vs l t=false↔∀e∈l,Ck.faultE cs fs vs e t=false
 | []=>by rw [Ck.faultEs];simp
 |e::r=>by rw [Ck.faultEs,Bool.or_eq_false_iff,zDV cs fs vs t r];simp
structure Cl (cs:List C) (fs vs:List ByteArray) (l:List E):Prop where
 ok:validEs l=true
 no:∀t,t<13→Ck.faultEs cs fs vs l t=false
section
variable {cs:List C} {fs vs:List ByteArray}
theorem Cl.sub {l l':List E} (h:Cl cs fs vs l) (hs:∀e∈l',e∈l):Cl cs fs vs l':=by
 refine⟨?_,fun t ht=>(zDV cs fs vs t l').2 (fun e he=>(zDV cs fs vs t l).1 (h.no t ht) e (hs e he))⟩
 rw [zAX,List.all_eq_true]
 intro e he
 have:=h.ok
 rw [zAX,List.all_eq_true] at this
 exact this e (hs e he)
theorem Cl.fold {l:List E} (h:Cl cs fs vs l):Cl cs fs vs (folds l):=⟨zAA l h.ok,fun t ht=>zCL cs fs vs t l (h.no t ht)⟩
theorem Cl.cons {e:E} {l:List E} (h:Cl cs fs vs (e::l)):(validE e=true∧∀t,t<13→Ck.faultE cs fs vs e t=false)∧Cl cs fs vs l:=by
 have h1:=h.ok
 rw [validEs,Bool.and_eq_true] at h1
 have h2:∀t,t<13→Ck.faultE cs fs vs e t=false∧Ck.faultEs cs fs vs l t=false:=fun t ht=>by
  have:=h.no t ht
  rw [Ck.faultEs,Bool.or_eq_false_iff] at this
  exact this
 exact⟨⟨h1.1,fun t ht=>(h2 t ht).1⟩,h1.2,fun t ht=>(h2 t ht).2⟩
def Sc (vs:List ByteArray) (g:G):Prop:=∀s,Ck.hasS vs s=true→∃v∈g.vars,v.1=s
theorem Sc.same {g h:G} (s:Sc vs g) (e:h.vars=g.vars):Sc vs h:=fun x hx=>by rw [e];exact s x hx
theorem zMG {g:G} {s:ByteArray} (h:∃v∈g.vars,v.1=s):∃v∈g.vars,zA0 g s=(v.2:Int):=by
 obtain⟨v,hv,e⟩:=h
 unfold zA0
 cases hf:g.vars.reverse.find? fun x=>decide (x.1=s) with
 |none=>
  rw [List.find?_eq_none] at hf
  exact absurd (decide_eq_true e) (hf v (List.mem_reverse.2 hv))
 |some x=>exact ⟨x,List.mem_reverse.1 (List.mem_of_find?_eq_some hf),rfl⟩
theorem zS5 {l:List ByteArray} {s:ByteArray} (h:Ck.hasS l s=true):∃n:Nat,idx l s=(n:Int)∧n<l.length:=by
 unfold idx
 unfold Ck.hasS at h
 cases hf:l.findIdx? fun x=>decide (x=s) with
 |none=>
  rw [List.findIdx?_eq_none_iff] at hf
  obtain⟨x,hx,h2⟩:=List.any_eq_true.1 h
  rw [hf x hx] at h2
  cases h2
 |some i=>exact ⟨i,rfl,(List.findIdx?_eq_some_iff_getElem.1 hf).1⟩
theorem zSK {nm:ByteArray} {i:Nat} (h:Ck.classAt cs nm=some i):∃c,cs[i]? =some c:=by
 unfold Ck.classAt at h
 have:=(List.findIdx?_eq_some_iff_getElem.1 h).1
 exact⟨cs[i],List.getElem?_eq_getElem this⟩
theorem zTX {k o i:Int} {nm:ByteArray} {a:Bool} {n:Nat} (h:okE k o i nm a n=true):(k=4∨k=6∨k=7∨k=8∨k=9→n=1)∧(k=10→n=2∧0≤o∧o≤12)∧(k=5→a=true→0<n)∧0≤k∧k≤10:=by
 unfold okE at h
 rw [Bool.and_eq_true] at h
 have h2:=h.2
 clear h
 repeat' split at h2
 all_goals simp only [Bool.and_eq_true,Bool.or_eq_true,Bool.not_eq_true',decide_eq_true_eq,Bool.false_eq_true] at h2
 all_goals (refine⟨fun hk=>?_,fun hk=>?_,fun hk ha=>?_,?_,?_⟩)
 all_goals first
  |omega
  |(exfalso;omega)
  |(rcases h2.2 with h3|h3
    ·rw [ha] at h3;cases h3
    ·exact h3)
  |skip
set_option maxHeartbeats 4000000 in
mutual
theorem gE_sd (cs:List C) (fs vs:List ByteArray) (p:Nat→Prop):∀(g:G) (e:E) (D:List Int),Sd cs fs p g D→validE e=true→(∀t,t<13→Ck.faultE cs fs vs e t=false)→Sc vs g→Nx cs fs p g (gE cs fs g e) D 1
 |g,.mk k o i nm a l,D,s,hv,hf,sc=>by
  have hv2:=hv
  have hvl:=(zF hv).1
  have hok:=zTX (zF hv).2
  have hf2:∀t,t<13→Ck.ownE cs fs vs k nm a l t=false∧Ck.faultEs cs fs vs l t=false:=fun t ht=>by
   have:=hf t ht
   rw [Ck.faultE,Bool.or_eq_false_iff] at this
   exact this
  have cl:Cl cs fs vs l:=⟨hvl,fun t ht=>(hf2 t ht).2⟩
  have hs:=zMQ cs fs vs p g l D s cl sc
  have hL:=fun (j v:Int) (hl:l.length=2) (hj:j=19∨j=20) (hv:v=0∨v=1)=>gL_sd cs fs vs p g j v l D s cl sc hl hj hv
  have hn:=s.nn
  clear hf
  rw [gE]
  cases hc:const (.mk k o i nm a l) with
  |some n=>
   have:=zBP hv2 hc
   exact(s.nx.em (by rfl) (by rfl) (by decide) (by omega) (.push n (by omega) (by omega))).cast rfl
  |none=>
   dsimp only
   by_cases h1:k=1
   ·rw [if_pos h1]
    exact(s.nx.em (by rfl) (by rfl) (by decide) (by omega) (.flat 1 (by omega))).cast rfl
   rw [if_neg h1]
   by_cases h2:k=2
   ·rw [if_pos h2]
    exact(s.nx.em (by rfl) (by rfl) (by decide) (by omega) (.flat 2 (by omega))).cast rfl
   rw [if_neg h2]
   by_cases h3:k=3
   ·rw [if_pos h3]
    have h9:=(hf2 7 (by decide)).1
    unfold Ck.ownE at h9
    rw [if_pos h3] at h9
    obtain⟨v,hv,e⟩:=zMG (sc nm (by simpa using h9))
    rw [e]
    exact(s.nx.em (by rfl) (by rfl) (by decide) (by omega) (.loc 3 v.2 (by omega) (s.nums v hv))).cast rfl
   rw [if_neg h3]
   by_cases h4:k=4
   ·rw [if_pos h4]
    have hl:=hok.1 (by omega)
    by_cases h5:Ck.headKind l=2
    ·rw [if_pos h5]
     have h9:=(hf2 10 (by decide)).1
     unfold Ck.ownE at h9
     rw [if_neg h3,if_pos h4,decide_eq_true h5] at h9
     obtain⟨n,e,hlt⟩:=zS5 (l:=fs) (s:=nm) (by simpa using h9)
     rw [e]
     exact(s.nx.em (by rfl) (by rfl) (by decide) (by omega) (.own 7 n (by omega) hlt)).cast rfl
    ·rw [if_neg h5]
     have hs2:Nx cs fs p g (name (gEs cs fs g l) nm).1 D l.length:=by
      obtain⟨D',s',hk⟩:=hs
      exact⟨D',(s'.name nm).1,by rw [(s'.name nm).2.2.1];exact hk⟩
     obtain⟨D',s',hk⟩:=hs
     exact(hs2.em (by rfl) (by rfl) (by decide) (by omega) (.nam 6 _ (by omega) (s'.name nm).2.1)).cast (by omega)
   rw [if_neg h4]
   by_cases h5:k=5
   ·rw [if_pos h5]
    have h8:=(hf2 8 (by decide)).1
    have h9:=(hf2 9 (by decide)).1
    unfold Ck.ownE at h8 h9
    rw [if_neg h3,if_neg h4,if_pos h5] at h8 h9
    cases hcl:Ck.classAt cs nm with
    |none=>rw [hcl] at h8;simp at h8
    |some ci=>
     rw [hcl] at h9
     obtain⟨c,hcc⟩:=zSK hcl
     dsimp only at h9
     rw [hcc] at h9
     have h10:¬((c.fields.length:Int)<(l.length:Int) - (if a then 1 else 0)):=by simpa using h9
     by_cases ha:a=true
     ·rw [if_pos ha]
      rw [if_pos ha] at h10
      have hp:=hok.2.2.1 h5 ha
      exact(hs.em (show pops 11 ((l.length:Int) - 1)=(l.length:Int) from by unfold pops;rw [if_neg (by decide),if_neg (by decide),if_neg (by decide),if_pos (by decide)];omega) (by rfl) (by decide) (by omega) (.new 11 ci c _ (by omega) hcc (by omega) (by omega))).cast (by omega)
     ·rw [if_neg ha]
      rw [if_neg ha] at h10
      exact(hs.em (show pops 10 (l.length:Int)=(l.length:Int) from by unfold pops;rw [if_neg (by decide),if_neg (by decide),if_pos (by decide)]) (by rfl) (by decide) (by omega) (.new 10 ci c _ (by omega) hcc (by omega) (by omega))).cast (by omega)
   rw [if_neg h5]
   by_cases h6:k=6
   ·rw [if_pos h6]
    have hl:=hok.1 (by omega)
    exact(hs.em (by rfl) (by rfl) (by decide) (by omega) (.flat 12 (by omega))).cast (by omega)
   rw [if_neg h6]
   by_cases h7:k=7
   ·rw [if_pos h7]
    have hl:=hok.1 (by omega)
    exact(hs.em (by rfl) (by rfl) (by decide) (by omega) (.flat 13 (by omega))).cast (by omega)
   rw [if_neg h7]
   by_cases h8:k=8
   ·rw [if_pos h8]
    have hl:=hok.1 (by omega)
    exact(hs.em (by rfl) (by rfl) (by decide) (by omega) (.flat 14 (by omega))).cast (by omega)
   rw [if_neg h8]
   by_cases h9:k=9
   ·rw [if_pos h9]
    have hl:=hok.1 (by omega)
    exact(hs.em (by rfl) (by rfl) (by decide) (by omega) (.flat 15 (by omega))).cast (by omega)
   rw [if_neg h9]
   have hk:k=10:=by
    rcases Int.lt_or_lt_of_ne (show k≠0 from fun h0=>by unfold const at hc;dsimp only at hc;rw [if_pos h0] at hc;cases hc) with hq|hq<;>omega
   have h12:=hok.2.1 hk
   by_cases h11:o=11
   ·rw [if_pos h11]
    exact hL 19 0 h12.1 (.inl rfl) (.inl rfl)
   rw [if_neg h11]
   by_cases h13:o=12
   ·rw [if_pos h13]
    exact hL 20 1 h12.1 (.inr rfl) (.inr rfl)
   rw [if_neg h13]
   exact(hs.em (by rfl) (by rfl) (by decide) (by omega) (.bin o (by omega) (by omega))).cast (by omega)
theorem zMQ (cs:List C) (fs vs:List ByteArray) (p:Nat→Prop):∀(g:G) (l:List E) (D:List Int),Sd cs fs p g D→Cl cs fs vs l→Sc vs g→Nx cs fs p g (gEs cs fs g l) D l.length
 |g,[],D,s,h,sc=>by rw [gEs];exact s.nx
 |g,e::r,D,s,h,sc=>by
  obtain⟨⟨hv,hf⟩,h2⟩:=h.cons
  have h1:=gE_sd cs fs vs p g e D s hv hf sc
  rw [gEs]
  exact(h1.trans (fun D' s'=>zMQ cs fs vs p (gE cs fs g e) r D' s' h2 (sc.same (zDT cs fs g e)))).cast (by rw [List.length_cons];omega)
theorem gL_sd (cs:List C) (fs vs:List ByteArray) (p:Nat→Prop):∀(g:G) (j v:Int) (l:List E) (D:List Int),Sd cs fs p g D→Cl cs fs vs l→Sc vs g→l.length=2→(j=19∨j=20)→(v=0∨v=1)→Nx cs fs p g (gL cs fs g j v l) D 1
 |g,j,v,[],D,s,h,sc,hl,hj,hv=>by cases hl
 |g,j,v,x::r,D,s,h,sc,hl,hj,hv=>by
  obtain⟨⟨hvx,hfx⟩,h2⟩:=h.cons
  have hr:r.length=1:=by rw [List.length_cons] at hl;omega
  obtain⟨D1,s1,k1⟩:=gE_sd cs fs vs p g x D s hvx hfx sc
  have hn:=s.nn
  have sc1:Sc vs (gE cs fs g x):=sc.same (zDT cs fs g x)
  have hP:pops j 0=1:=by rcases hj with rfl|rfl<;>rfl
  have hQ:pushes j=0:=by rcases hj with rfl|rfl<;>rfl
  have hJ:Jp j:=by rcases hj with rfl|rfl<;>decide
  have hks:=zEJ cs fs (emit (gE cs fs g x) j 0 0 1 0) r
  have s2:Sd cs fs (fun i=>p i∨i=(gE cs fs g x).code.length) (emit (gE cs fs g x) j 0 0 1 0) (D++D1++ [(gE cs fs g x).depth -1+0]):=s1.jp hP hQ hJ (by omega) (fun i hi=> .inl hi) (.inr rfl)
  have hat:=zAQ (gE cs fs g x) j 0 0 1 0
  have sc2:Sc vs (emit (gE cs fs g x) j 0 0 1 0):=sc1.same rfl
  rw [gL]
  have hDa:(D++D1)[(gE cs fs g x).code.length]? =some (gE cs fs g x).depth:=s1.top
  generalize hg1:gE cs fs g x=g1 at*
  obtain⟨D3,s3,k3⟩:=zMQ cs fs vs _ (emit g1 j 0 0 1 0) r _ s2 h2 sc2
  have hat3:=hks _ _ hat
  generalize hg3:gEs cs fs (emit g1 j 0 0 1 0) r=g3 at*
  have k3':g3.depth=g1.depth -1+0+r.length:=k3
  have s4:=s3.em (o:=17) (a:=0) (b:=0) (P:=1) (Q:=1) rfl rfl (by decide) (by omega) (.flat 17 (by omega))
  have hat4:=Kp.emit g3 17 0 0 1 1 _ _ hat3
  have hd4:(emit g3 17 0 0 1 1).depth=g3.depth -1+1:=rfl
  have hl4:(emit g3 17 0 0 1 1).code.length=g3.code.length+1:=zO ..
  generalize hg4:emit g3 17 0 0 1 1=g4 at*
  have s5:=s4.jd (p':=fun i=>p i∨i=g1.code.length∨i=g4.code.length) (by omega) (fun i hi=>hi.elim .inl (fun e=> .inr (.inl e))) (.inr (.inr rfl))
  have hat5:=Kp.emit g4 18 0 0 0 0 _ _ hat4
  have hat5':=zAQ g4 18 0 0 0 0
  have hD4:(D++D1++ [g1.depth -1+0]++D3++ [g3.depth -1+1]++ [g4.depth -1])[g4.code.length]? =some g4.depth:=zAI s4.top
  have hD1:(D++D1++ [g1.depth -1+0]++D3++ [g3.depth -1+1]++ [g4.depth -1])[g1.code.length]? =some g1.depth:=zAI (zAI (zAI (zAI hDa)))
  have hd5:(emit g4 18 0 0 0 0).depth=g4.depth -0+0:=rfl
  have hlt:g1.code.length≠g4.code.length:=by
   have:=zGX hat3
   omega
  generalize hg5:emit g4 18 0 0 0 0=g5 at*
  have s6:=s5.patch (i:=g1.code.length) (o:=j) (a:=0) (d:=g1.depth) (p':=fun i=>p i∨i=g4.code.length) hat5 hD1 hJ (by show g5.depth -1=_;omega) (fun q hq=>by rcases hq with hq|hq|hq;exact .inr (.inl hq);exact .inl hq;exact .inr (.inr hq))
  have hat6:(patch { g5 with depth:=g5.depth -1 } g1.code.length).code[g4.code.length]? =some (18,0,0):=by rw [zCZ _ _ _ hlt];exact hat5'
  have hd6:(patch { g5 with depth:=g5.depth -1 } g1.code.length).depth=g5.depth -1:=rfl
  generalize hg6:patch { g5 with depth:=g5.depth -1 } g1.code.length=g6 at*
  have s7:=s6.em (o:=0) (a:=v) (b:=0) (P:=0) (Q:=1) rfl rfl (by decide) (by omega) (.push v (by omega) (by omega))
  have hat7:=Kp.emit g6 0 v 0 0 1 _ _ hat6
  have hd7:(emit g6 0 v 0 0 1).depth=g6.depth -0+1:=rfl
  generalize hg7:emit g6 0 v 0 0 1=g7 at*
  have s8:=s7.patch (i:=g4.code.length) (o:=18) (a:=0) (d:=g4.depth) (p':=p) hat7 (zAI hD4) (.inl rfl) (by show g7.depth=g4.depth -0;omega) (fun q hq=>hq.elim .inr .inl)
  refine⟨D1++ [g1.depth -1+0]++D3++ [g3.depth -1+1]++ [g4.depth -1]++ [g6.depth -0+1],?_,?_⟩
  ·simp only [List.append_assoc] at s8 ⊢
   exact s8
  ·show g7.depth=_
   omega
end
end
end Co
end Go.Proofs.YtcnmfcgmnkncaaaGreatDoor
