/-
  Several texts in one: CoStmt, TrFew2.
-/
import Derived.Test.YtcnmfcgmnkncaaaGreatDoorJ14
namespace Go.Proofs.YtcnmfcgmnkncaaaGreatDoor
namespace Cw
open Go.RowKit Go.Maps Pw
theorem kindsS {k:Int} {nm:ByteArray} {n nb ne:Nat} (h:Tr.okS k nm n nb ne=true):k=0∨k=1∨k=2∨k=3∨k=4∨k=5∨k=6∨k=7∨k=8∨k=9:=by
 by_cases h0:k=0;exact .inl h0
 by_cases h1:k=1;exact .inr (.inl h1)
 by_cases h2:k=2;exact .inr (.inr (.inl h2))
 by_cases h3:k=3;exact .inr (.inr (.inr (.inl h3)))
 by_cases h4:k=4;exact .inr (.inr (.inr (.inr (.inl h4))))
 by_cases h5:k=5;exact .inr (.inr (.inr (.inr (.inr (.inl h5)))))
 by_cases h6:k=6;exact .inr (.inr (.inr (.inr (.inr (.inr (.inl h6))))))
 by_cases h7:k=7;exact .inr (.inr (.inr (.inr (.inr (.inr (.inr (.inl h7)))))))
 by_cases h8:k=8;exact .inr (.inr (.inr (.inr (.inr (.inr (.inr (.inr (.inl h8))))))))
 by_cases h9:k=9;exact .inr (.inr (.inr (.inr (.inr (.inr (.inr (.inr (.inr h9))))))))
 unfold Tr.okS at h
 rw [if_neg h0,if_neg h1,if_neg h2,if_neg h3,if_neg h4,if_neg h5,if_neg h6,if_neg h7,if_neg h8,if_neg h9] at h
 cases h
theorem zEC {k:Int} {nm:ByteArray} {l:List Tr.E} {nb ne:Nat} (h:Tr.okS k nm l.length nb ne=true) (hk:k=0∨k=1∨k=3∨k=4∨k=6):∃x,l= [x]:=by
 have h1:l.length=1:=by
  unfold Tr.okS at h
  rcases hk with rfl|rfl|rfl|rfl|rfl<;>(simp at h;omega)
 match l,h1 with
 | [x],_=>exact ⟨x,rfl⟩
theorem zOU {nm:ByteArray} {l:List Tr.E} {nb ne:Nat} (h:Tr.okS 2 nm l.length nb ne=true):∃x y,l= [x,y]:=by
 have h1:l.length=2:=by
  unfold Tr.okS at h
  simp at h
  omega
 match l,h1 with
 | [x,y],_=>exact ⟨x,y,rfl⟩
theorem zHM (g:Co.G) (s:ByteArray):(Co.name g s).1.large=g.large:=by
 unfold Co.name
 split<;>rfl
theorem zMF (g:Co.G) (s:ByteArray) (q:Bool):(Co.name { g with large:=q } s).1= { (Co.name g s).1 with large:=q }:=by
 unfold Co.name
 dsimp only
 split<;>rfl
theorem zJR (g:Co.G) (s:ByteArray) (q:Bool):(Co.name { g with large:=q } s).2=(Co.name g s).2:=by
 unfold Co.name
 dsimp only
 split<;>rfl
theorem zAU (x:Tr.E):Co.folds [x]= [Co.fold x]:=by rw [Co.folds,Co.folds]
theorem zEL (x y:Tr.E):Co.folds [x,y]= [Co.fold x,Co.fold y]:=by rw [Co.folds,Co.folds,Co.folds]
theorem gS_0 (cs:List Tr.C) (fs:List ByteArray) (g:Co.G) {nm:ByteArray} {x:Tr.E} {b l:List Tr.S}:Co.gS cs fs g (.mk 0 nm [x] b l)= { Co.emit (Co.gE cs fs g (Co.fold x)) 4 (Co.gE cs fs g (Co.fold x)).locals 0 1 0 with vars:=(Co.gE cs fs g (Co.fold x)).vars++ [(nm,(Co.gE cs fs g (Co.fold x)).locals)],locals:=(Co.gE cs fs g (Co.fold x)).locals+1 }:=by
 rw [Co.gS]
 simp only [zAU,List.take_succ_cons,List.take_zero,Co.gEs]
 rw [if_pos trivial,←Co.zGZ cs fs g (Co.fold x)]
 rfl
theorem gS_1 (cs:List Tr.C) (fs:List ByteArray) (g:Co.G) {nm:ByteArray} {x:Tr.E} {b l:List Tr.S}:Co.gS cs fs g (.mk 1 nm [x] b l)=Co.emit (Co.gE cs fs g (Co.fold x)) 4 (Co.zA0 (Co.gE cs fs g (Co.fold x)) nm) 0 1 0:=by
 rw [Co.gS]
 simp only [zAU,List.take_succ_cons,List.take_zero,Co.gEs]
 rfl
theorem gS_2 (cs:List Tr.C) (fs:List ByteArray) (g:Co.G) {nm:ByteArray} {x y:Tr.E} {b l:List Tr.S}:Co.gS cs fs g (.mk 2 nm [x,y] b l)=(if (Co.fold x).kind=2 then Co.emit (Co.gE cs fs g (Co.fold y)) 9 (Co.idx fs nm) 0 1 0 else Co.emit (Co.name (Co.gEs cs fs g (Co.folds [x,y])) nm).1 8 (Co.name (Co.gEs cs fs g (Co.folds [x,y])) nm).2 0 2 0):=by
 rw [Co.gS]
 simp only [zEL,List.drop_succ_cons,List.drop_zero,Co.gEs]
 rfl
theorem gS_3 (cs:List Tr.C) (fs:List ByteArray) (g:Co.G) {nm:ByteArray} {x:Tr.E} {b l:List Tr.S}:Co.gS cs fs g (.mk 3 nm [x] b l)=(let h:=Co.emit (Co.gE cs fs g (Co.fold x)) 19 0 0 1 0;let g2:=Co.gB cs fs h b;if l.isEmpty then Co.patch g2 (Co.gE cs fs g (Co.fold x)).code.length else Co.patch (Co.gB cs fs (Co.patch (Co.emit g2 18 0 0 0 0) (Co.gE cs fs g (Co.fold x)).code.length) l) g2.code.length):=by
 rw [Co.gS]
 simp only [zAU,List.take_succ_cons,List.take_zero,Co.gEs]
 rfl
theorem gS_4 (cs:List Tr.C) (fs:List ByteArray) (g:Co.G) {nm:ByteArray} {x:Tr.E} {b l:List Tr.S}:Co.gS cs fs g (.mk 4 nm [x] b l)=Co.patch (Co.emit (Co.gB cs fs (Co.emit (Co.gE cs fs g (Co.fold x)) 19 0 0 1 0) b) 18 g.code.length 0 0 0) (Co.gE cs fs g (Co.fold x)).code.length:=by
 rw [Co.gS]
 simp only [zAU,List.take_succ_cons,List.take_zero,Co.gEs]
 rfl
theorem gS_5 (cs:List Tr.C) (fs:List ByteArray) (g:Co.G) {nm:ByteArray} {es:List Tr.E} {b l:List Tr.S}:Co.gS cs fs g (.mk 5 nm es b l)=Co.emit { (Co.name (Co.gEs cs fs g (Co.folds es)) nm).1 with large:=(Co.name (Co.gEs cs fs g (Co.folds es)) nm).1.large||decide (8<(Co.folds es).length -1) } 21 (Co.name (Co.gEs cs fs g (Co.folds es)) nm).2 (((Co.folds es).length:Int) - 1) (Co.folds es).length 0:=by
 rw [Co.gS]
 rfl
theorem gS_6 (cs:List Tr.C) (fs:List ByteArray) (g:Co.G) {nm:ByteArray} {x:Tr.E} {b l:List Tr.S}:Co.gS cs fs g (.mk 6 nm [x] b l)=Co.emit (Co.gE cs fs g (Co.fold x)) 22 0 0 1 0:=by
 rw [Co.gS]
 simp only [zAU,List.take_succ_cons,List.take_zero,Co.gEs]
 rfl
theorem gS_7 (cs:List Tr.C) (fs:List ByteArray) (g:Co.G) {nm:ByteArray} {es:List Tr.E} {b l:List Tr.S}:Co.gS cs fs g (.mk 7 nm es b l)=Co.emit (Co.gEs cs fs g (Co.folds es)) 23 0 0 2 0:=by
 rw [Co.gS]
 rfl
theorem gS_8 (cs:List Tr.C) (fs:List ByteArray) (g:Co.G) {nm:ByteArray} {es:List Tr.E} {b l:List Tr.S}:Co.gS cs fs g (.mk 8 nm es b l)=Co.emit (Co.name (Co.gEs cs fs g (Co.folds es)) nm).1 24 (Co.name (Co.gEs cs fs g (Co.folds es)) nm).2 0 2 0:=by
 rw [Co.gS]
 rfl
theorem gS_9 (cs:List Tr.C) (fs:List ByteArray) (g:Co.G) {nm:ByteArray} {es:List Tr.E} {b l:List Tr.S}:Co.gS cs fs g (.mk 9 nm es b l)=Co.emit g 25 0 0 0 0:=by
 rw [Co.gS]
 rfl
set_option maxRecDepth 100000 in
set_option maxHeartbeats 40000000 in
theorem zTJ {B0 gb:Nat} {cs:List Tr.C} {cl:Tr.C} {pv fv mv:Value} {d:Nat} (hC:BC B0 gb cs cl pv fv mv d):SC B0 gb cs cl pv fv mv (d+1):=by
 intro s g cv nv vv w x y z n hd hv hbs h hB hbd hx hy hz
 obtain⟨X,hX⟩:∃q,Co.gS cs cl.fields g s=q:=⟨_,rfl⟩
 rw [hX]
 obtain⟨k,nm,es,b,l⟩:=s
 have hv':=hv
 rw [Tr.validS,Bool.and_eq_true,Bool.and_eq_true,Bool.and_eq_true] at hv'
 obtain⟨⟨⟨hve,hok⟩,hvb⟩,hvl⟩:=hv'
 have hdb:Tr.S.deep.deeps b≤d:=Tr.S.deep_body (s:= .mk k nm es b l) hd
 have hdl:Tr.S.deep.deeps l≤d:=Tr.S.deep_els (s:= .mk k nm es b l) hd
 have hbd2:Co.Bd n g∧n+Co.wS (.mk k nm es b l)≤900000:=hbd
 rw [Co.wS] at hbd2
 have HBD:Hid (Co.Bd n g∧n≤900000):=zh ⟨hbd.1,by have:=hbd2.2;omega⟩
 have HT:Hid (n+(32+es.length+Co.wEs es+Co.wSs b+Co.wSs l)≤900000):=zh hbd2.2
 have hx':SlE (hide (upL 0 (owl gb cv nv vv)) w) x es:=hx
 have hy':SlS (hide (upL 0 (owl gb cv nv vv)) w) y b:=hy
 have hz':SlS (hide (upL 0 (owl gb cv nv vv)) w) z l:=hz
 obtain⟨px,cx,rfl,_⟩:=hx'.form
 obtain⟨py,cy,rfl,_⟩:=hy'.form
 obtain⟨pz,cz,rfl,_⟩:=hz'.form
 obtain⟨NX,hNX⟩:∃q,es.length=q:=⟨_,rfl⟩
 obtain⟨NB,hNB⟩:∃q,b.length=q:=⟨_,rfl⟩
 obtain⟨NL,hNL⟩:∃q,l.length=q:=⟨_,rfl⟩
 rw [hNX] at hx'
 rw [hNB] at hy'
 rw [hNL] at hz'
 have HNM:Hid (nm.size≤maxLen):=zh hbs.name
 have HBC:=zh hC
 have HVE:=zh hve
 have HOK:=zh hok
 have HD1:=zh hdb
 have HD2:=zh hdl
 have HV1:=zh hvb
 have HV2:=zh hvl
 have HX:=zh hX
 have HLX:=zh hNX
 have C0:=zh (Mg.start (os:= [RE (.slice px NX cx) es,RS (.slice py NB cy) b,RS (.slice pz NL cz) l]) h hB (fun r hr=>by
  rcases List.mem_cons.1 hr with rfl|hr
  ·exact⟨re_mn,hx'⟩
  rcases List.mem_cons.1 hr with rfl|hr
  ·exact⟨rs_mn,hy'⟩
  rw [List.mem_singleton.1 hr]
  exact⟨rs_mn,hz'⟩))
 unfold stmtV
 simp only [Tr.S.kind,Tr.S.name]
 rw [hNX,hNB,hNL]
 clear hX h hB hbd hbd2 hx hy hz hx' hy' hz' hC hd hv hve hok hvb hvl hdb hdl hbs hNX hNB hNL
 obtain⟨S,w1,HX1,HW1,hx1,C1⟩:=C0.out.boxE #[.int .i64 k,.string nm,.slice px NX cx,.slice py NB cy,.slice pz NL cz] 71
 go_enter Tryz.func90,Tryz.ntmps90
 go_upto_region 1 with fail
 rw [←HX1.out,←HW1.out]
 clear HX1 HW1 C0
 obtain⟨w2,HW⟩:∃q,Hid (q=w1.alloc (.cells #[.slice none 0 0] 35)):=⟨_,zh rfl⟩
 obtain⟨B,HB⟩:∃q,Hid (q=w1.heap.size):=⟨_,zh rfl⟩
 have HM:Hid (My w1 [(B,#[.slice none 0 0],35)] [] w2):=zh (by rw [HW.out];exact(My.start w1).box HB.out _ _)
 have hbl:Below w1.heap.size w1 w2:=by rw [HW.out];exact zD _ _
 have C2:=zh (C1.out.below hbl)
 clear hbl
 go_upto_region 2 with fail
 rw [←HB.out,←HW.out]
 clear HW
 have q0:=cells5 (C2.out.b 0 rfl)
 go_wp2_with fail
 clear q0
 refine(zQU HM.out es (.slice px NX cx) (SlE.inc (Mg.sight C1.out 0 rfl) zGW) (by have:=HT.out;omega) HVE.out).mono ?_
 rintro e w3 ⟨rfl,v',hm,hs⟩
 obtain⟨pe,ce,rfl,_⟩:=SlE.form hs
 have C3:=zh (Mg.adopt C1.out hm re_mn hs)
 rw [Co.zAB,HLX.out] at C3
 clear hm hs HM HB C2 C1
 rcases kindsS HOK.out with hk|hk|hk|hk|hk|hk|hk|hk|hk|hk
 ·subst hk
  obtain⟨x,rfl⟩:=zEC HOK.out (by omega)
  obtain rfl:NX=1:=HLX.out.symm
  rw [zAU] at C3
  have HVX:Hid (Tr.validE (Co.fold x)=true):=zh (Co.zAR x (zG HVE.out (j:=0) (e:=x) rfl))
  obtain⟨y,hy⟩:∃q,Co.fold x=q:=⟨_,rfl⟩
  rw [hy] at C3 HVX
  have HY:=zh hy
  have HT1:Hid (n+(33+Co.wE y+Co.wSs b+Co.wSs l)≤900000):=zh (by have h9:=HT.out;rw [Co.wEs,Co.wEs] at h9;simp only [List.length_cons,List.length_nil] at h9;have h8:=Co.zCS x;rw [hy] at h8;omega)
  clear hy HT
  have HT:=HT1
  obtain⟨b9,o9,hp9,_⟩:=Mg.elem C3.out 0 rfl (j:=0) (x:=y) rfl
  subst hp9
  have hx9:=HX.out
  rw [gS_0] at hx9
  rw [HY.out] at hx9
  have HX:=zh hx9
  clear hx9
  obtain⟨hly,pay,cay,⟨zy_0,zy_1,zy_2,zy_3,zy_4,zy_5⟩,hKy⟩:=Mg.elemE C3.out 0 rfl (j:=0) (x:=y) rfl (expr_any y.deep) (Nat.le_refl _) HVX.out ⟨HBD.out.1,by have h9:=HT.out;omega⟩
  obtain⟨ANy,hANy⟩:∃q,y.args.length=q:=⟨_,rfl⟩
  rw [hANy] at hKy zy_5
  unfold exprV at hKy
  simp only [Nat.zero_mul,Nat.add_zero] at zy_0 zy_1 zy_2 zy_3 zy_4 zy_5
  have HKy:=zh hKy
  clear hANy hKy
  have q1:=cells5 (C3.out.b 1 rfl)
  have q0:=cells1 (C3.out.b 0 rfl)
  go_wp2_with fail
  refine HKy.out.mono ?_
  rintro e w4 hp4
  obtain⟨rfl,cv4,nv4,vv4,C4⟩:=Mg.done C3.out hp4
  clear hp4 C3
  clear HKy hly zy_0 zy_1 zy_2 zy_3 zy_4 zy_5 q1 q0
  have HB5:Hid (Co.Bd (n+Co.wE y) (Co.gE cs cl.fields (g) y)∧n+Co.wE y≤900000):=zh ⟨Co.gE_bd cs cl.fields _ _ y HBD.out.1,by have h9:=HT.out;omega⟩
  clear HBD
  obtain⟨GG,hGG⟩:∃q,Co.gE cs cl.fields (g) y=q:=⟨_,rfl⟩
  rw [hGG] at C4 HB5 HX
  clear hGG
  obtain⟨LN,hLN⟩:∃q,GG.locals=q:=⟨_,rfl⟩
  have HLN:=zh hLN
  rw [hLN] at HX
  have g8:=gcell C4.out.q (j:=8) rfl
  have gl:=lt_of_block C4.out.q.blk
  rw [hLN] at g8
  have hlb:=HB5.out.1.locals
  rw [hLN] at hlb
  have HLB:Hid (LN≤900000):=zh (by have:=HB5.out.2;omega)
  clear hlb hLN
  have q1:=cells5 (C4.out.b 1 rfl)
  have q0:=cells1 (C4.out.b 0 rfl)
  go_wp2_with fail
  clear g8 gl
  refine(zW C4.out.q (Nat.le_trans C4.out.hB C4.out.le) HB5.out (4) ((LN:Int)) (0) (1) (0) ⟨by omega,by omega⟩ ⟨by omega,by omega⟩).mono ?_
  rintro e w6 hp6
  obtain⟨rfl,cv6,nv6,vv6,C6⟩:=Mg.done C4.out hp6
  clear hp6 C4
  have HB7:Hid (Co.Bd (n+Co.wE y+1+1) (Co.emit (GG) (4) ((LN:Int)) (0) (1) (0))∧n+Co.wE y+1+1≤900000):=zh ⟨HB5.out.1.em (m:=1) ⟨by omega,by omega⟩ ⟨by omega,by omega⟩,by have h9:=HT.out;omega⟩
  clear HB5
  clear q1 q0
  obtain⟨GE,hGE⟩:∃q,Co.emit (GG) (4) ((LN:Int)) (0) (1) (0)=q:=⟨_,rfl⟩
  have HLE:Hid (GE.locals=LN):=zh (by rw [←hGE];exact HLN.out)
  have hx8:=HX.out
  change { Co.emit (GG) (4) ((LN:Int)) (0) (1) (0) with vars:=(Co.emit (GG) (4) ((LN:Int)) (0) (1) (0)).vars++ [(nm,LN)],locals:=LN+1 }=X at hx8
  rw [hGE] at C6 HB7 hx8
  have HX:=zh hx8
  clear hGE hx8
  have q1:=cells5 (C6.out.b 1 rfl)
  have q0:=cells1 (C6.out.b 0 rfl)
  go_upto_region 7 with fail
  clear q1 q0
  obtain⟨i0,hi0,hz0,hz1,hz2⟩:=info_parts varInfo
  obtain⟨wd,HWD,CD⟩:=C6.out.drewE
  refine wp_region_held_drew (S:=fun W=>W.cell? ⟨S,1,none⟩=some (.string nm)∧W.cell? ⟨gb,8,none⟩=some (.int .i64 LN)) (by kernel_rfl) (by rw [←HWD.out];exact⟨zB (CD.out.b 1 rfl) (j:=1) rfl,by have h9:=gcell CD.out.q (j:=8) rfl;rw [HLE.out] at h9;exact h9⟩) (fun hHeld=>?_)
  rw [←HWD.out] at hHeld ⊢
  clear HWD C6
  refine rU 0 (some 26) ?_
  refine rU 1 (some 27) ?_
  refine rU 2 (some 28) ?_
  refine rU 3 (some 29) ?_
  refine rU 5 (some 31) ?_
  refine rU 6 (some 32) ?_
  refine rU 7 (some 33) ?_
  refine rU 8 (some 34) ?_
  refine rU 9 (some 35) ?_
  refine rU 10 (some 36) ?_
  refine rU 11 (some 37) ?_
  clear hHeld
  refine rR2 4 (some 30) 12 (some 38) (fun K hK=>?_) (fun K hK=>?_)
  ·have gl:=lt_of_block CD.out.q.blk
   have g7:=gcell CD.out.q (j:=7) rfl
   have gf7:=gfree CD.out.q 7
   go_simp
   refine hK.out _ _ ?_ (fun hHeld=>?_)
   ·exact⟨zB (CD.out.b 1 rfl) (j:=1) rfl,by have h9:=gcell CD.out.q (j:=8) rfl;rw [HLE.out] at h9;exact h9⟩
   clear hK K hHeld
   try simp only [Act.put,q0,q1,q2]
   clear gl g7 gf7
   refine rR1 12 (some 38) (fun K hK=>?_)
   obtain⟨G,wg,HG,HWG,hxg,CG⟩:=CD.out.boxE #[.string nm,.int .i64 LN] 106
   go_simp
   rw [←HG.out,←HWG.out]
   refine hK.out _ _ ?_ (fun hHeld=>?_)
   ·exact⟨zB (CG.out.b 2 rfl) (j:=1) rfl,by have h9:=gcell CG.out.q (j:=8) rfl;rw [HLE.out] at h9;exact h9⟩
   clear hK K hHeld
   try simp only [Act.put,q0,q1,q2]
   clear HG HWG CD
   refine rR1 13 (some 39) (fun K hK=>?_)
   refine zD3 zBJ rfl _ _ 102 rfl i0 (.agg #[.string ⟨#[]⟩,.int .i64 0]) 24 Tryz.underlying102 hi0 hz0 hz1 hz2 rfl (by decide) rfl CG.out.q.vars G #[.string nm,.int .i64 LN] (nm,LN) rfl (CG.out.b 0 rfl) rfl (zEN _) (by have:=HB7.out.1.vars;have:=HB7.out.2;unfold maxLen;omega) (by have:=HB7.out.1.vars;have:=HB7.out.2;omega) (Nat.le_trans CG.out.hB CG.out.le) ?_
   intro v' wa hr9 hg9 hf9
   obtain⟨h1,h2⟩:=CG.out.q.addVar hr9 hg9 hf9 HNM.out
   have CA:=zh (Mg.move CG.out h1 h2)
   obtain⟨pc9,cc9,hv'⟩:=own_form hr9
   have HS9:Hid (wa.cell? ⟨S,1,none⟩=some (.string nm)∧wa.cell? ⟨gb,8,none⟩=some (.int .i64 LN)):=zh (by
    have hxn:some S≠vv6.ownBlock:=fun e=>(CG.out.lts (q:=S) (by simp)).2.2 (zQ.2 (.inr (.inr (.inr e.symm))))
    have hx9:=gr_at hg9 (CG.out.b 2 rfl) hxn
    have hb9:=gr_at hg9 CG.out.q.blk (fun e=>(zA3.1 CG.out.q.nd).1.2.2 e.symm)
    have h9:=zB hb9 (j:=8) rfl
    rw [HLE.out] at h9
    exact⟨zB hx9 (j:=1) rfl,h9⟩)
   have HXN:Hid (S≠gb):=zh (fun e=>(CG.out.lts (q:=S) (by simp)).2.2 (zQ.2 (.inl e)))
   have hb9:=gr_at hg9 CG.out.q.blk (fun e=>(zA3.1 CG.out.q.nd).1.2.2 e.symm)
   have gl:=lt_of_block hb9
   have g7:=zB hb9 (j:=7) (u:=vv6) rfl
   have gf7:=zI hb9 7
   subst hv'
   clear h1 h2 hr9 hg9 hf9 hb9 CG
   refine hK.out _ _ HS9.out (fun hHeld=>?_)
   clear hK K
   try simp only [Act.put,q0,q1,q2]
   refine rU 14 (some 40) ?_
   refine rU 15 (some 41) ?_
   refine rR1 16 none (fun K hK=>?_)
   go_simp
   refine hK.out _ _ ?_ (fun _=>?_)
   ·exact⟨by rw [zAJ HXN.out];exact HS9.out.1,by rw [zFV (by decide)];exact HS9.out.2⟩
   clear hK K
   try simp only [Act.put,q0,q1,q2]
   refine wpAnyH_done (by kernel_rfl) ?_ _
   clear g7 gf7 gl HS9
   obtain⟨wb,HWB⟩:∃wq,Hid (wq=wa.setCell ⟨gb,7,none⟩ (.slice pc9 (GE.vars.length+1) cc9)):=⟨_,zh rfl⟩
   have hl9:(GE.vars++ [(nm,LN)]).length=GE.vars.length+1:=by simp
   rw [hl9,←HWB.out] at CA
   rw [←HWB.out]
   clear HWB hl9
   have gq:=CA.out.q
   have gl:=lt_of_block gq.blk
   have g8:=gcell gq (j:=8) (u:= .int .i64 GE.locals) rfl
   have gf8:=gfree gq 8
   rw [HLE.out] at g8
   have hln:=HLB.out
   have hw1:wrap64 ((LN:Int)+1)=(LN:Int)+1:=by unfold wrap64;omega
   obtain⟨h1,h2⟩:=gq.put 8 (.int .i64 ((LN:Int)+1)) (g':= { GE with vars:=GE.vars++ [(nm,LN)],locals:=LN+1 }) rfl rfl rfl (by rw [show ((LN:Int)+1)=((LN+1:Nat):Int) from(Int.natCast_succ LN).symm];simp [HLE.out])
   have CZ:=zh (Mg.move CA.out h1 h2)
   clear h1 h2 gq
   obtain⟨LI,hLI⟩:∃q:Int,(LN:Int)=q:=⟨_,rfl⟩
   have CY:=CZ.out
   rw [hLI] at CY g8 hw1 ⊢
   have CX:=zh CY
   clear CY CZ hLI hln HXN hxg
   go_upto_region 8 with fail
   clear HNM HBC HVE HOK HD1 HD2 HV1 HV2 HB7
   go_wp2_with fail
   go_end0
   have h9:=Mg.fin CX.out
   rw [HX.out] at h9
   exact h9
  ·obtain⟨G,wg,HG,HWG,hxg,CG⟩:=CD.out.boxE #[.string nm,.int .i64 LN] 106
   go_simp
   rw [←HG.out,←HWG.out]
   refine hK.out _ _ ?_ (fun hHeld=>?_)
   ·exact⟨zB (CG.out.b 2 rfl) (j:=1) rfl,by have h9:=gcell CG.out.q (j:=8) rfl;rw [HLE.out] at h9;exact h9⟩
   clear hK K hHeld
   try simp only [Act.put,q0,q1,q2]
   clear HG HWG CD
   refine rR1 4 (some 30) (fun K hK=>?_)
   have gl:=lt_of_block CG.out.q.blk
   have g7:=gcell CG.out.q (j:=7) rfl
   have gf7:=gfree CG.out.q 7
   go_simp
   refine hK.out _ _ ?_ (fun hHeld=>?_)
   ·exact⟨zB (CG.out.b 2 rfl) (j:=1) rfl,by have h9:=gcell CG.out.q (j:=8) rfl;rw [HLE.out] at h9;exact h9⟩
   clear hK K hHeld
   try simp only [Act.put,q0,q1,q2]
   clear gl g7 gf7
   refine rR1 13 (some 39) (fun K hK=>?_)
   refine zD3 zBJ rfl _ _ 102 rfl i0 (.agg #[.string ⟨#[]⟩,.int .i64 0]) 24 Tryz.underlying102 hi0 hz0 hz1 hz2 rfl (by decide) rfl CG.out.q.vars G #[.string nm,.int .i64 LN] (nm,LN) rfl (CG.out.b 0 rfl) rfl (zEN _) (by have:=HB7.out.1.vars;have:=HB7.out.2;unfold maxLen;omega) (by have:=HB7.out.1.vars;have:=HB7.out.2;omega) (Nat.le_trans CG.out.hB CG.out.le) ?_
   intro v' wa hr9 hg9 hf9
   obtain⟨h1,h2⟩:=CG.out.q.addVar hr9 hg9 hf9 HNM.out
   have CA:=zh (Mg.move CG.out h1 h2)
   obtain⟨pc9,cc9,hv'⟩:=own_form hr9
   have HS9:Hid (wa.cell? ⟨S,1,none⟩=some (.string nm)∧wa.cell? ⟨gb,8,none⟩=some (.int .i64 LN)):=zh (by
    have hxn:some S≠vv6.ownBlock:=fun e=>(CG.out.lts (q:=S) (by simp)).2.2 (zQ.2 (.inr (.inr (.inr e.symm))))
    have hx9:=gr_at hg9 (CG.out.b 2 rfl) hxn
    have hb9:=gr_at hg9 CG.out.q.blk (fun e=>(zA3.1 CG.out.q.nd).1.2.2 e.symm)
    have h9:=zB hb9 (j:=8) rfl
    rw [HLE.out] at h9
    exact⟨zB hx9 (j:=1) rfl,h9⟩)
   have HXN:Hid (S≠gb):=zh (fun e=>(CG.out.lts (q:=S) (by simp)).2.2 (zQ.2 (.inl e)))
   have hb9:=gr_at hg9 CG.out.q.blk (fun e=>(zA3.1 CG.out.q.nd).1.2.2 e.symm)
   have gl:=lt_of_block hb9
   have g7:=zB hb9 (j:=7) (u:=vv6) rfl
   have gf7:=zI hb9 7
   subst hv'
   clear h1 h2 hr9 hg9 hf9 hb9 CG
   refine hK.out _ _ HS9.out (fun hHeld=>?_)
   clear hK K
   try simp only [Act.put,q0,q1,q2]
   refine rU 14 (some 40) ?_
   refine rU 15 (some 41) ?_
   refine rR1 16 none (fun K hK=>?_)
   go_simp
   refine hK.out _ _ ?_ (fun _=>?_)
   ·exact⟨by rw [zAJ HXN.out];exact HS9.out.1,by rw [zFV (by decide)];exact HS9.out.2⟩
   clear hK K
   try simp only [Act.put,q0,q1,q2]
   refine wpAnyH_done (by kernel_rfl) ?_ _
   clear g7 gf7 gl HS9
   obtain⟨wb,HWB⟩:∃wq,Hid (wq=wa.setCell ⟨gb,7,none⟩ (.slice pc9 (GE.vars.length+1) cc9)):=⟨_,zh rfl⟩
   have hl9:(GE.vars++ [(nm,LN)]).length=GE.vars.length+1:=by simp
   rw [hl9,←HWB.out] at CA
   rw [←HWB.out]
   clear HWB hl9
   have gq:=CA.out.q
   have gl:=lt_of_block gq.blk
   have g8:=gcell gq (j:=8) (u:= .int .i64 GE.locals) rfl
   have gf8:=gfree gq 8
   rw [HLE.out] at g8
   have hln:=HLB.out
   have hw1:wrap64 ((LN:Int)+1)=(LN:Int)+1:=by unfold wrap64;omega
   obtain⟨h1,h2⟩:=gq.put 8 (.int .i64 ((LN:Int)+1)) (g':= { GE with vars:=GE.vars++ [(nm,LN)],locals:=LN+1 }) rfl rfl rfl (by rw [show ((LN:Int)+1)=((LN+1:Nat):Int) from(Int.natCast_succ LN).symm];simp [HLE.out])
   have CZ:=zh (Mg.move CA.out h1 h2)
   clear h1 h2 gq
   obtain⟨LI,hLI⟩:∃q:Int,(LN:Int)=q:=⟨_,rfl⟩
   have CY:=CZ.out
   rw [hLI] at CY g8 hw1 ⊢
   have CX:=zh CY
   clear CY CZ hLI hln HXN hxg
   go_upto_region 8 with fail
   clear HNM HBC HVE HOK HD1 HD2 HV1 HV2 HB7
   go_wp2_with fail
   go_end0
   have h9:=Mg.fin CX.out
   rw [HX.out] at h9
   exact h9
 ·subst hk
  obtain⟨x,rfl⟩:=zEC HOK.out (by omega)
  obtain rfl:NX=1:=HLX.out.symm
  rw [zAU] at C3
  have HVX:Hid (Tr.validE (Co.fold x)=true):=zh (Co.zAR x (zG HVE.out (j:=0) (e:=x) rfl))
  obtain⟨y,hy⟩:∃q,Co.fold x=q:=⟨_,rfl⟩
  rw [hy] at C3 HVX
  have HY:=zh hy
  have HT1:Hid (n+(33+Co.wE y+Co.wSs b+Co.wSs l)≤900000):=zh (by have h9:=HT.out;rw [Co.wEs,Co.wEs] at h9;simp only [List.length_cons,List.length_nil] at h9;have h8:=Co.zCS x;rw [hy] at h8;omega)
  clear hy HT
  have HT:=HT1
  obtain⟨b9,o9,hp9,_⟩:=Mg.elem C3.out 0 rfl (j:=0) (x:=y) rfl
  subst hp9
  have hx9:=HX.out
  rw [gS_1] at hx9
  rw [HY.out] at hx9
  have HX:=zh hx9
  clear hx9
  obtain⟨hly,pay,cay,⟨zy_0,zy_1,zy_2,zy_3,zy_4,zy_5⟩,hKy⟩:=Mg.elemE C3.out 0 rfl (j:=0) (x:=y) rfl (expr_any y.deep) (Nat.le_refl _) HVX.out ⟨HBD.out.1,by have h9:=HT.out;omega⟩
  obtain⟨ANy,hANy⟩:∃q,y.args.length=q:=⟨_,rfl⟩
  rw [hANy] at hKy zy_5
  unfold exprV at hKy
  simp only [Nat.zero_mul,Nat.add_zero] at zy_0 zy_1 zy_2 zy_3 zy_4 zy_5
  have HKy:=zh hKy
  clear hANy hKy
  have q1:=cells5 (C3.out.b 1 rfl)
  have q0:=cells1 (C3.out.b 0 rfl)
  go_wp2_with fail
  refine HKy.out.mono ?_
  rintro e w8 hp8
  obtain⟨rfl,cv8,nv8,vv8,C8⟩:=Mg.done C3.out hp8
  clear hp8 C3
  clear HKy hly zy_0 zy_1 zy_2 zy_3 zy_4 zy_5 q1 q0
  have HB9:Hid (Co.Bd (n+Co.wE y) (Co.gE cs cl.fields (g) y)∧n+Co.wE y≤900000):=zh ⟨Co.gE_bd cs cl.fields _ _ y HBD.out.1,by have h9:=HT.out;omega⟩
  clear HBD
  obtain⟨LV,hLV⟩:∃q,Co.zA0 (Co.gE cs cl.fields (g) y) nm=q:=⟨_,rfl⟩
  have HLV:=zh hLV
  rw [hLV] at HX
  clear hLV
  have q1:=cells5 (C8.out.b 1 rfl)
  have q0:=cells1 (C8.out.b 0 rfl)
  go_wp2_with fail
  refine(zJT C8.out.q (by have:=HB9.out.1.vars;have:=HB9.out.2;omega) nm).mono ?_
  rintro e w10 ⟨rfl,hb⟩
  have C11:=zh (C8.out.below hb)
  clear C8
  clear hb
  rw [HLV.out]
  clear q1 q0
  go_wp2_with fail
  refine(zW C11.out.q (Nat.le_trans C11.out.hB C11.out.le) HB9.out (4) (LV) (0) (1) (0) ⟨by omega,by omega⟩ ⟨by omega,by omega⟩).mono ?_
  rintro e w12 hp12
  obtain⟨rfl,cv12,nv12,vv12,C12⟩:=Mg.done C11.out hp12
  clear hp12 C11
  have HB13:Hid (Co.Bd (n+Co.wE y+1+1) (Co.emit (Co.gE cs cl.fields (g) y) (4) (LV) (0) (1) (0))∧n+Co.wE y+1+1≤900000):=zh ⟨HB9.out.1.em (m:=1) ⟨by omega,by omega⟩ ⟨by omega,by omega⟩,by have h9:=HT.out;omega⟩
  clear HB9
  go_wp2_with fail
  go_end0
  have h9:=Mg.fin C12.out
  rw [HX.out] at h9
  exact h9
 ·subst hk
  obtain⟨x,y,rfl⟩:=zOU HOK.out
  obtain rfl:NX=2:=HLX.out.symm
  have HVU:Hid (Tr.validE (Co.fold x)=true):=zh (Co.zAR x (zG HVE.out (j:=0) (e:=x) rfl))
  have HVV:Hid (Tr.validE (Co.fold y)=true):=zh (Co.zAR y (zG HVE.out (j:=1) (e:=y) rfl))
  have HVL:Hid (Tr.validEs [Co.fold x,Co.fold y]=true):=zh (by rw [←zEL];exact Co.zAA _ HVE.out)
  have HT1:Hid (n+(34+(Co.wE (Co.fold x)+Co.wE (Co.fold y))+Co.wSs b+Co.wSs l)≤900000):=zh (by have h9:=HT.out;rw [Co.wEs,Co.wEs,Co.wEs] at h9;simp only [List.length_cons,List.length_nil] at h9;have h8:=Co.zCS x;have h7:=Co.zCS y;omega)
  clear HT
  have HT:=HT1
  have hx9:=HX.out
  rw [gS_2] at hx9
  rw [zEL] at hx9
  rw [zEL] at C3
  obtain⟨u,hu⟩:∃q,Co.fold x=q:=⟨_,rfl⟩
  obtain⟨v,hv⟩:∃q,Co.fold y=q:=⟨_,rfl⟩
  rw [hu,hv] at C3 HVL HT hx9
  rw [hu] at HVU
  rw [hv] at HVV
  clear hu hv
  obtain⟨b9,o9,hp9,_⟩:=Mg.elem C3.out 0 rfl (j:=0) (x:=u) rfl
  subst hp9
  obtain⟨b8,o8,hp8,hlb,pa8,ca8,hce,_,_⟩:=Mg.elem C3.out 0 rfl (j:=0) (x:=u) rfl
  cases hp8
  obtain⟨x0,x1,x2,x3,x4,x5⟩:=hce
  simp only [Nat.zero_mul,Nat.add_zero] at x0 x1 x2 x3 x4 x5
  clear x1 x2 x3 x4 x5
  by_cases hu2:u.kind=2
  ·rw [if_pos hu2] at hx9
   have HX:=zh hx9
   clear hx9
   rw [hu2] at x0
   obtain⟨hlv,pav,cav,⟨zv_0,zv_1,zv_2,zv_3,zv_4,zv_5⟩,hKv⟩:=Mg.elemE C3.out 0 rfl (j:=1) (x:=v) rfl (expr_any v.deep) (Nat.le_refl _) HVV.out ⟨HBD.out.1,by have h9:=HT.out;omega⟩
   obtain⟨ANv,hANv⟩:∃q,v.args.length=q:=⟨_,rfl⟩
   rw [hANv] at hKv zv_5
   unfold exprV at hKv
   simp only [Nat.one_mul] at zv_0 zv_1 zv_2 zv_3 zv_4 zv_5
   have HKv:=zh hKv
   clear hANv hKv
   have q1:=cells5 (C3.out.b 1 rfl)
   have q0:=cells1 (C3.out.b 0 rfl)
   go_wp2_with fail
   clear x0 hlb
   refine HKv.out.mono ?_
   rintro e w14 hp14
   obtain⟨rfl,cv14,nv14,vv14,C14⟩:=Mg.done C3.out hp14
   clear hp14 C3
   clear HKv hlv zv_0 zv_1 zv_2 zv_3 zv_4 zv_5 q1 q0
   have HB15:Hid (Co.Bd (n+Co.wE v) (Co.gE cs cl.fields (g) v)∧n+Co.wE v≤900000):=zh ⟨Co.gE_bd cs cl.fields _ _ v HBD.out.1,by have h9:=HT.out;omega⟩
   clear HBD
   have q1:=cells5 (C14.out.b 1 rfl)
   have q0:=cells1 (C14.out.b 0 rfl)
   go_upto_region 15 with fail
   clear q1 q0
   obtain⟨IV,hIV⟩:∃q,Co.idx cl.fields nm=q:=⟨_,rfl⟩
   have HIV:=zh hIV
   rw [hIV] at HX
   clear hIV
   obtain⟨w16,HW,C16⟩:=C14.out.drewE
   refine wp_region_held_drew (S:=fun W=>W.cell? ⟨S,1,none⟩=some (.string nm)∧W.cell? ⟨gb,3,none⟩=some (fv)) (by kernel_rfl) (by rw [←HW.out];exact⟨zB (C16.out.b 1 rfl) (j:=1) rfl,gcell C16.out.q (j:=3) rfl⟩) (fun hHeld=>?_)
   rw [←HW.out] at hHeld ⊢
   clear HW C14
   refine rU 0 (some 74) ?_
   refine rU 1 (some 75) ?_
   refine rU 2 (some 76) ?_
   refine rU 3 (some 77) ?_
   refine rU 4 (some 78) ?_
   refine rU 5 (some 79) ?_
   refine rU 6 (some 80) ?_
   refine rU 7 (some 81) ?_
   refine rR1 8 (some 82) (fun K hK=>?_)
   go_simp
   clear hHeld
   refine(zGU nm fv cl.fields w16 C16.out.q.fcw).mono ?_
   rintro e w' ⟨rfl,hww⟩
   rw [hww,HIV.out]
   clear hww w'
   go_wp2_with fail
   refine hK.out _ _ ?_ (fun hHeld=>?_)
   ·exact⟨zB (C16.out.b 1 rfl) (j:=1) rfl,gcell C16.out.q (j:=3) rfl⟩
   clear hK K
   try simp only [Act.put,q0,q1,q2]
   refine rR1 9 (some 83) (fun K hK=>?_)
   go_simp
   clear hHeld
   refine(zW C16.out.q (Nat.le_trans C16.out.hB C16.out.le) HB15.out (9) (IV) (0) (1) (0) ⟨by omega,by omega⟩ ⟨by omega,by omega⟩).mono ?_
   rintro e w17 hp17
   obtain⟨rfl,cv17,nv17,vv17,C17⟩:=Mg.done C16.out hp17
   clear hp17 C16
   have HB18:Hid (Co.Bd (n+Co.wE v+1+1) (Co.emit (Co.gE cs cl.fields (g) v) (9) (IV) (0) (1) (0))∧n+Co.wE v+1+1≤900000):=zh ⟨HB15.out.1.em (m:=1) ⟨by omega,by omega⟩ ⟨by omega,by omega⟩,by have h9:=HT.out;omega⟩
   clear HB15
   go_wp2_with fail
   refine hK.out _ _ ?_ (fun hHeld=>?_)
   ·exact⟨zB (C17.out.b 1 rfl) (j:=1) rfl,gcell C17.out.q (j:=3) rfl⟩
   clear hK K
   try simp only [Act.put,q0,q1,q2]
   refine wpAnyH_done (by kernel_rfl) ?_ _
   clear hHeld
   go_wp2_with fail
   go_end0
   have h9:=Mg.fin C17.out
   rw [HX.out] at h9
   exact h9
  ·rw [if_neg hu2] at hx9
   have HX:=zh hx9
   clear hx9
   have hub:(u.kind == 2)=false:=beq_eq_false_iff_ne.2 hu2
   have HW2:Hid (Co.wEs [u,v]=Co.wE u+Co.wE v):=zh (by rw [Co.wEs,Co.wEs,Co.wEs];rfl)
   have q1:=cells5 (C3.out.b 1 rfl)
   have q0:=cells1 (C3.out.b 0 rfl)
   go_wp2_with fail
   refine(Mg.eachE C3.out 0 rfl (expr_any (Tr.E.deep.deeps [u,v])) (fun j x hx=>Tr.E.deeps_get _ j x hx) HVL.out ⟨HBD.out.1,by have:=HT.out;have:=HW2.out;omega⟩).mono ?_
   rintro e w19 hp19
   obtain⟨rfl,cv19,nv19,vv19,C19⟩:=Mg.done C3.out hp19
   clear hp19 C3
   clear hub x0 hlb q1 q0
   have HB20:Hid (Co.Bd (n+(Co.wE u+Co.wE v)) (Co.gEs cs cl.fields (g) [u,v])∧n+(Co.wE u+Co.wE v)≤900000):=zh ⟨(Co.zB7 cs cl.fields _ _ [u,v] HBD.out.1).mono (by have:=HW2.out;omega),by have h9:=HT.out;omega⟩
   clear HBD
   obtain⟨g9,hg9⟩:∃q,Co.name (Co.gEs cs cl.fields (g) [u,v]) nm=q:=⟨_,rfl⟩
   have HG9:=zh hg9
   rw [hg9] at HX
   clear hg9
   have q1:=cells5 (C19.out.b 1 rfl)
   go_wp2_with fail
   refine(name_any C19.out.q (Nat.le_trans C19.out.hB C19.out.le) HB20.out nm HNM.out).mono ?_
   rw [HG9.out]
   rintro e w21 hp21
   obtain⟨rfl,cv21,nv21,vv21,C21⟩:=Mg.named C19.out hp21
   clear hp21 C19
   clear q1
   have HB22:Hid (Co.Bd (n+(Co.wE u+Co.wE v)+1) (g9.1)∧n+(Co.wE u+Co.wE v)+1≤900000):=zh ⟨HG9.out▸HB20.out.1.name nm,by have h9:=HT.out;omega⟩
   clear HB20
   go_wp2_with fail
   refine(zW C21.out.q (Nat.le_trans C21.out.hB C21.out.le) HB22.out (8) ((g9.2:Int)) (0) (2) (0) ⟨by omega,by omega⟩ ⟨by omega,by omega⟩).mono ?_
   rintro e w23 hp23
   obtain⟨rfl,cv23,nv23,vv23,C23⟩:=Mg.done C21.out hp23
   clear hp23 C21
   have HB24:Hid (Co.Bd (n+(Co.wE u+Co.wE v)+1+2+1) (Co.emit (g9.1) (8) ((g9.2:Int)) (0) (2) (0))∧n+(Co.wE u+Co.wE v)+1+2+1≤900000):=zh ⟨HB22.out.1.em (m:=2) ⟨by omega,by omega⟩ ⟨by omega,by omega⟩,by have h9:=HT.out;omega⟩
   clear HB22
   go_wp2_with fail
   go_end0
   have h9:=Mg.fin C23.out
   rw [HX.out] at h9
   exact h9
 ·subst hk
  obtain⟨x,rfl⟩:=zEC HOK.out (by omega)
  obtain rfl:NX=1:=HLX.out.symm
  rw [zAU] at C3
  have HVX:Hid (Tr.validE (Co.fold x)=true):=zh (Co.zAR x (zG HVE.out (j:=0) (e:=x) rfl))
  obtain⟨y,hy⟩:∃q,Co.fold x=q:=⟨_,rfl⟩
  rw [hy] at C3 HVX
  have HY:=zh hy
  have HT1:Hid (n+(33+Co.wE y+Co.wSs b+Co.wSs l)≤900000):=zh (by have h9:=HT.out;rw [Co.wEs,Co.wEs] at h9;simp only [List.length_cons,List.length_nil] at h9;have h8:=Co.zCS x;rw [hy] at h8;omega)
  clear hy HT
  have HT:=HT1
  obtain⟨b9,o9,hp9,_⟩:=Mg.elem C3.out 0 rfl (j:=0) (x:=y) rfl
  subst hp9
  have hx9:=HX.out
  rw [gS_3] at hx9
  rw [HY.out] at hx9
  have HX:=zh hx9
  clear hx9
  obtain⟨hly,pay,cay,⟨zy_0,zy_1,zy_2,zy_3,zy_4,zy_5⟩,hKy⟩:=Mg.elemE C3.out 0 rfl (j:=0) (x:=y) rfl (expr_any y.deep) (Nat.le_refl _) HVX.out ⟨HBD.out.1,by have h9:=HT.out;omega⟩
  obtain⟨ANy,hANy⟩:∃q,y.args.length=q:=⟨_,rfl⟩
  rw [hANy] at hKy zy_5
  unfold exprV at hKy
  simp only [Nat.zero_mul,Nat.add_zero] at zy_0 zy_1 zy_2 zy_3 zy_4 zy_5
  have HKy:=zh hKy
  clear hANy hKy
  have q1:=cells5 (C3.out.b 1 rfl)
  have q0:=cells1 (C3.out.b 0 rfl)
  go_wp2_with fail
  refine HKy.out.mono ?_
  rintro e w25 hp25
  obtain⟨rfl,cv25,nv25,vv25,C25⟩:=Mg.done C3.out hp25
  clear hp25 C3
  clear HKy hly zy_0 zy_1 zy_2 zy_3 zy_4 zy_5 q1 q0
  have HB26:Hid (Co.Bd (n+Co.wE y) (Co.gE cs cl.fields (g) y)∧n+Co.wE y≤900000):=zh ⟨Co.gE_bd cs cl.fields _ _ y HBD.out.1,by have h9:=HT.out;omega⟩
  clear HBD
  have q1:=cells5 (C25.out.b 1 rfl)
  go_wp2_with fail
  have hbr:=zOL HBC.out (.mk 3 nm [x] b l) HD1.out HD2.out HV1.out HV2.out C25.out.q (Nat.le_trans C25.out.hB C25.out.le) ⟨HB26.out.1,by have h9:=HT.out;show n+Co.wE y+Co.wSs b+Co.wSs l+9≤900000;omega⟩ (x:= .slice px 1 cx) (y:= .slice py NB cy) (z:= .slice pz NL cz) ⟨_,_,_,rfl⟩ (Mg.sightS C25.out 2 rfl) (Mg.sightS C25.out 3 rfl)
  unfold stmtV at hbr
  simp only [Tr.S.kind,Tr.S.name] at hbr
  refine hbr.mono ?_
  clear hbr q1
  rintro e w27 hp27
  obtain⟨rfl,cv27,nv27,vv27,C27⟩:=Mg.done C25.out hp27
  clear hp27 C25
  go_wp2_with fail
  go_end0
  have h9:=Mg.fin C27.out
  have h8:=HX.out
  rw [←h8]
  exact h9
 ·subst hk
  obtain⟨x,rfl⟩:=zEC HOK.out (by omega)
  obtain rfl:NX=1:=HLX.out.symm
  rw [zAU] at C3
  have HVX:Hid (Tr.validE (Co.fold x)=true):=zh (Co.zAR x (zG HVE.out (j:=0) (e:=x) rfl))
  obtain⟨y,hy⟩:∃q,Co.fold x=q:=⟨_,rfl⟩
  rw [hy] at C3 HVX
  have HY:=zh hy
  have HT1:Hid (n+(33+Co.wE y+Co.wSs b+Co.wSs l)≤900000):=zh (by have h9:=HT.out;rw [Co.wEs,Co.wEs] at h9;simp only [List.length_cons,List.length_nil] at h9;have h8:=Co.zCS x;rw [hy] at h8;omega)
  clear hy HT
  have HT:=HT1
  obtain⟨b9,o9,hp9,_⟩:=Mg.elem C3.out 0 rfl (j:=0) (x:=y) rfl
  subst hp9
  have hx9:=HX.out
  rw [gS_4] at hx9
  rw [HY.out] at hx9
  have HX:=zh hx9
  clear hx9
  obtain⟨pcv,ccv,hcv⟩:=own_form C3.out.q.code
  have g5:=gcell C3.out.q (j:=5) rfl
  have gl:=lt_of_block C3.out.q.blk
  rw [hcv] at g5
  obtain⟨NC,hNC⟩:∃q,g.code.length=q:=⟨_,rfl⟩
  rw [hNC] at g5 HX
  clear hNC hcv
  obtain⟨hly,pay,cay,⟨zy_0,zy_1,zy_2,zy_3,zy_4,zy_5⟩,hKy⟩:=Mg.elemE C3.out 0 rfl (j:=0) (x:=y) rfl (expr_any y.deep) (Nat.le_refl _) HVX.out ⟨HBD.out.1,by have h9:=HT.out;omega⟩
  obtain⟨ANy,hANy⟩:∃q,y.args.length=q:=⟨_,rfl⟩
  rw [hANy] at hKy zy_5
  unfold exprV at hKy
  simp only [Nat.zero_mul,Nat.add_zero] at zy_0 zy_1 zy_2 zy_3 zy_4 zy_5
  have HKy:=zh hKy
  clear hANy hKy
  have q1:=cells5 (C3.out.b 1 rfl)
  have q0:=cells1 (C3.out.b 0 rfl)
  go_wp2_with fail
  clear g5 gl
  refine HKy.out.mono ?_
  rintro e w28 hp28
  obtain⟨rfl,cv28,nv28,vv28,C28⟩:=Mg.done C3.out hp28
  clear hp28 C3
  clear HKy hly zy_0 zy_1 zy_2 zy_3 zy_4 zy_5 q1 q0
  have HB29:Hid (Co.Bd (n+Co.wE y) (Co.gE cs cl.fields (g) y)∧n+Co.wE y≤900000):=zh ⟨Co.gE_bd cs cl.fields _ _ y HBD.out.1,by have h9:=HT.out;omega⟩
  clear HBD
  go_wp2_with fail
  refine(zEF C28.out.q (Nat.le_trans C28.out.hB C28.out.le) HB29.out (19) (1) ⟨by omega,by omega⟩).mono ?_
  rintro e w30 hp30
  obtain⟨X1,A1,cv30,nv30,vv30,rfl,C30⟩:=Mg.jumped C28.out hp30
  clear hp30 C28
  unfold labV
  have HB31:Hid (Co.Bd (n+Co.wE y+1+1) (Co.emit (Co.gE cs cl.fields (g) y) (19) 0 0 (1) 0)∧n+Co.wE y+1+1≤900000):=zh ⟨HB29.out.1.em (m:=1) ⟨by omega,by omega⟩ ⟨by omega,by omega⟩,by have h9:=HT.out;omega⟩
  clear HB29
  have q3:=cells5 (C30.out.b 3 rfl)
  go_wp2_with fail
  clear q3
  refine(HBC.out b _ _ _ _ w30 (.slice py NB cy) _ HD1.out HV1.out C30.out.q (Nat.le_trans C30.out.hB C30.out.le) ⟨HB31.out.1,by have:=HT.out;omega⟩ (Mg.sightS C30.out 2 rfl)).mono ?_
  rintro e w32 hp32
  obtain⟨rfl,cv32,nv32,vv32,C32⟩:=Mg.done C30.out hp32
  clear hp32 C30
  have HB33:Hid (Co.Bd (n+Co.wE y+1+1+Co.wSs b) (Co.gB cs cl.fields (Co.emit (Co.gE cs cl.fields (g) y) (19) 0 0 (1) 0) b)∧n+Co.wE y+1+1+Co.wSs b≤900000):=zh ⟨(Co.zFC cs cl.fields _ _ b HB31.out.1).shut (HB31.out.1.mono (by omega)),by have h9:=HT.out;omega⟩
  clear HB31
  go_wp2_with fail
  refine(zW C32.out.q (Nat.le_trans C32.out.hB C32.out.le) HB33.out (18) ((NC:Int)) (0) (0) (0) ⟨by omega,by omega⟩ ⟨by omega,by omega⟩).mono ?_
  rintro e w34 hp34
  obtain⟨rfl,cv34,nv34,vv34,C34⟩:=Mg.done C32.out hp34
  clear hp34 C32
  have HB35:Hid (Co.Bd (n+Co.wE y+1+1+Co.wSs b+1+1) (Co.emit (Co.gB cs cl.fields (Co.emit (Co.gE cs cl.fields (g) y) (19) 0 0 (1) 0) b) (18) ((NC:Int)) (0) (0) (0))∧n+Co.wE y+1+1+Co.wSs b+1+1≤900000):=zh ⟨HB33.out.1.em (m:=1) ⟨by omega,by omega⟩ ⟨by omega,by omega⟩,by have h9:=HT.out;omega⟩
  clear HB33
  go_wp2_with fail
  refine(zB1 C34.out.q HB35.out (k:=(Co.gE cs cl.fields (g) y).code.length) (by have h9:=zP8 cs cl.fields (Co.emit (Co.gE cs cl.fields (g) y) (19) 0 0 (1) 0) b;rw [Co.zO (Co.gE cs cl.fields (g) y)] at h9;rw [Co.zO];omega) (C34.out.b 1 rfl) (C34.out.b 0 rfl) (C34.out.lts (q:=X1) (by simp)).2.2 (C34.out.lts (q:=A1) (by simp)).2.2).mono ?_
  rintro e w36 hp36
  obtain⟨rfl,cv36,nv36,vv36,C36⟩:=Mg.done C34.out hp36
  clear hp36 C34
  have HB37:Hid (Co.Bd (n+Co.wE y+1+1+Co.wSs b+1+1) (Co.patch (Co.emit (Co.gB cs cl.fields (Co.emit (Co.gE cs cl.fields (g) y) (19) 0 0 (1) 0) b) (18) ((NC:Int)) (0) (0) (0)) ((Co.gE cs cl.fields (g) y).code.length))∧n+Co.wE y+1+1+Co.wSs b+1+1≤900000):=zh ⟨HB35.out.1.patch _,by have h9:=HT.out;omega⟩
  clear HB35
  go_wp2_with fail
  go_end0
  have h9:=Mg.fin C36.out
  rw [HX.out] at h9
  exact h9
 ·subst hk
  have hnx:1≤NX:=by
   have h9:=HOK.out
   unfold Tr.okS at h9
   simp at h9
   have h8:=HLX.out
   omega
  have hx9:=HX.out
  rw [gS_5] at hx9
  rw [Co.zAB,HLX.out] at hx9
  have HX:=zh hx9
  clear hx9
  have HTN:Hid (n+(32+NX+Co.wEs es+Co.wSs b+Co.wSs l)≤900000):=zh (by have:=HT.out;have:=HLX.out;omega)
  have q1:=cells5 (C3.out.b 1 rfl)
  have q0:=cells1 (C3.out.b 0 rfl)
  go_wp2_with fail
  refine(Mg.eachE C3.out 0 rfl (expr_any (Tr.E.deep.deeps (Co.folds es))) (fun j x hx=>Tr.E.deeps_get _ j x hx) (Co.zAA es HVE.out) ⟨HBD.out.1,by have:=HT.out;have:=Co.zA2 es;omega⟩).mono ?_
  rintro e w38 hp38
  obtain⟨rfl,cv38,nv38,vv38,C38⟩:=Mg.done C3.out hp38
  clear hp38 C3
  clear q1 q0
  have HB39:Hid (Co.Bd (n+Co.wEs es) (Co.gEs cs cl.fields (g) (Co.folds es))∧n+Co.wEs es≤900000):=zh ⟨(Co.zB7 cs cl.fields _ _ (Co.folds es) HBD.out.1).mono (by have:=Co.zA2 es;omega),by have h9:=HT.out;omega⟩
  clear HBD
  obtain⟨GG,hGG⟩:∃q,Co.gEs cs cl.fields (g) (Co.folds es)=q:=⟨_,rfl⟩
  rw [hGG] at C38 HB39 HX
  clear hGG
  clear HT
  have HT:=HTN
  have hnn:=HT.out
  have hw1:wrap64 ((NX:Int) - 1)=(NX:Int) - 1:=by unfold wrap64;omega
  have HW2:Hid (IntKind.i64.wrap ((NX:Int) - 1)=(NX:Int) - 1):=zh (by rw [IntKind.wrap_i64];omega)
  cases hlg:GG.large
  ·have gl:=lt_of_block C38.out.q.blk
   have g11:=gcell C38.out.q (j:=11) rfl
   have gf11:=gfree C38.out.q 11
   rw [hlg] at g11
   obtain⟨h1,h2⟩:=GS.put C38.out.q 11 (.bool (decide ((8:Int)<(NX:Int) - 1))) (g':= { GG with large:=decide ((8:Int)<(NX:Int) - 1) }) rfl rfl rfl rfl
   obtain⟨w40,HW⟩:∃q,Hid (q=w38.setCell ⟨gb,11,none⟩ (.bool (decide ((8:Int)<(NX:Int) - 1)))):=⟨_,zh rfl⟩
   have C40:=zh (Mg.move C38.out h1 h2)
   rw [←HW.out] at C40
   clear h1 h2
   have q1:=cells5 (C38.out.b 1 rfl)
   have q0:=cells1 (C38.out.b 0 rfl)
   go_upto_region 31 with fail
   rw [←HW.out]
   clear HW C38 gl g11 gf11 q1 q0
   have HB41:Hid (Co.Bd (n+Co.wEs es) ({ GG with large:=decide ((8:Int)<(NX:Int) - 1) })∧n+Co.wEs es≤900000):=zh ⟨⟨HB39.out.1.code,HB39.out.1.names,HB39.out.1.vars,HB39.out.1.nums,HB39.out.1.locals,HB39.out.1.dep,HB39.out.1.most⟩,by have h9:=HT.out;omega⟩
   clear HB39
   have hnl:((Co.name GG nm).1.large||decide (8<NX -1))=(decide ((8:Int)<(NX:Int) - 1)):=by
    rw [zHM,hlg,Bool.false_or]
    exact decide_eq_decide.2 (by omega)
   have hx8:=HX.out
   rw [hnl,←zMF GG nm (decide ((8:Int)<(NX:Int) - 1)),←(zJR GG nm (decide ((8:Int)<(NX:Int) - 1)))] at hx8
   obtain⟨GH,hGH⟩:∃q,{ GG with large:=decide ((8:Int)<(NX:Int) - 1) }=q:=⟨_,rfl⟩
   rw [hGH] at hx8 C40 HB41
   have HX:=zh hx8
   clear hnl hx8 hGH
   obtain⟨g9,hg9⟩:∃q,Co.name GH nm=q:=⟨_,rfl⟩
   have HG9:=zh hg9
   rw [hg9] at HX
   clear hg9
   obtain⟨w42,HW,C42⟩:=C40.out.drewE
   refine wp_region_held_drew (S:=fun W=>W.cell? ⟨S,1,none⟩=some (.string nm)∧W.cell? ⟨B,0,none⟩=some (.slice pe NX ce)) (by kernel_rfl) (by rw [←HW.out];exact⟨zB (C42.out.b 1 rfl) (j:=1) rfl,zB (C42.out.b 0 rfl) (j:=0) rfl⟩) (fun hHeld=>?_)
   rw [←HW.out] at hHeld ⊢
   clear HW C40
   refine rU 0 (some 146) ?_
   refine rU 1 (some 147) ?_
   refine rU 2 (some 148) ?_
   refine rU 3 (some 149) ?_
   refine rU 5 (some 151) ?_
   refine rU 6 (some 152) ?_
   refine rU 7 (some 153) ?_
   refine rU 8 (some 154) ?_
   refine rU 9 (some 155) ?_
   refine rR1 4 (some 150) (fun K hK=>?_)
   go_simp
   clear hHeld
   refine(name_any C42.out.q (Nat.le_trans C42.out.hB C42.out.le) HB41.out nm HNM.out).mono ?_
   rw [HG9.out]
   rintro e w43 hp43
   obtain⟨rfl,cv43,nv43,vv43,C43⟩:=Mg.named C42.out hp43
   clear hp43 C42
   have HB44:Hid (Co.Bd (n+Co.wEs es+1) (g9.1)∧n+Co.wEs es+1≤900000):=zh ⟨HG9.out▸HB41.out.1.name nm,by have h9:=HT.out;omega⟩
   clear HB41
   go_wp2_with fail
   refine hK.out _ _ ?_ (fun hHeld=>?_)
   ·exact⟨zB (C43.out.b 1 rfl) (j:=1) rfl,zB (C43.out.b 0 rfl) (j:=0) rfl⟩
   clear hK K
   try simp only [Act.put,q0,q1,q2]
   refine rR1 10 (some 156) (fun K hK=>?_)
   go_simp
   clear hHeld
   rw [HW2.out]
   refine(zW C43.out.q (Nat.le_trans C43.out.hB C43.out.le) HB44.out (21) ((g9.2:Int)) ((NX:Int) - 1) ((NX:Int)) (0) ⟨by omega,by omega⟩ ⟨by omega,by omega⟩).mono ?_
   rintro e w45 hp45
   obtain⟨rfl,cv45,nv45,vv45,C45⟩:=Mg.done C43.out hp45
   clear hp45 C43
   have HB46:Hid (Co.Bd (n+Co.wEs es+1+NX+1) (Co.emit (g9.1) (21) ((g9.2:Int)) ((NX:Int) - 1) ((NX:Int)) (0))∧n+Co.wEs es+1+NX+1≤900000):=zh ⟨HB44.out.1.em (m:=NX) ⟨by omega,by omega⟩ ⟨by omega,by omega⟩,by have h9:=HT.out;omega⟩
   clear HB44
   go_wp2_with fail
   refine hK.out _ _ ?_ (fun hHeld=>?_)
   ·exact⟨zB (C45.out.b 1 rfl) (j:=1) rfl,zB (C45.out.b 0 rfl) (j:=0) rfl⟩
   clear hK K
   try simp only [Act.put,q0,q1,q2]
   refine wpAnyH_done (by kernel_rfl) ?_ _
   clear hHeld
   go_wp2_with fail
   go_end0
   have h9:=Mg.fin C45.out
   rw [HX.out] at h9
   exact h9
  ·have gl:=lt_of_block C38.out.q.blk
   have g11:=gcell C38.out.q (j:=11) rfl
   have gf11:=gfree C38.out.q 11
   rw [hlg] at g11
   obtain⟨h1,h2⟩:=GS.put C38.out.q 11 (.bool (true)) (g':= { GG with large:=true }) rfl rfl rfl rfl
   obtain⟨w47,HW⟩:∃q,Hid (q=w38.setCell ⟨gb,11,none⟩ (.bool (true))):=⟨_,zh rfl⟩
   have C47:=zh (Mg.move C38.out h1 h2)
   rw [←HW.out] at C47
   clear h1 h2
   have q1:=cells5 (C38.out.b 1 rfl)
   have q0:=cells1 (C38.out.b 0 rfl)
   go_upto_region 31 with fail
   rw [←HW.out]
   clear HW C38 gl g11 gf11 q1 q0
   have HB48:Hid (Co.Bd (n+Co.wEs es) ({ GG with large:=true })∧n+Co.wEs es≤900000):=zh ⟨⟨HB39.out.1.code,HB39.out.1.names,HB39.out.1.vars,HB39.out.1.nums,HB39.out.1.locals,HB39.out.1.dep,HB39.out.1.most⟩,by have h9:=HT.out;omega⟩
   clear HB39
   have hnl:((Co.name GG nm).1.large||decide (8<NX -1))=(true):=by
    rw [zHM,hlg]
    rfl
   have hx8:=HX.out
   rw [hnl,←zMF GG nm (true),←(zJR GG nm (true))] at hx8
   obtain⟨GH,hGH⟩:∃q,{ GG with large:=true }=q:=⟨_,rfl⟩
   rw [hGH] at hx8 C47 HB48
   have HX:=zh hx8
   clear hnl hx8 hGH
   obtain⟨g9,hg9⟩:∃q,Co.name GH nm=q:=⟨_,rfl⟩
   have HG9:=zh hg9
   rw [hg9] at HX
   clear hg9
   obtain⟨w49,HW,C49⟩:=C47.out.drewE
   refine wp_region_held_drew (S:=fun W=>W.cell? ⟨S,1,none⟩=some (.string nm)∧W.cell? ⟨B,0,none⟩=some (.slice pe NX ce)) (by kernel_rfl) (by rw [←HW.out];exact⟨zB (C49.out.b 1 rfl) (j:=1) rfl,zB (C49.out.b 0 rfl) (j:=0) rfl⟩) (fun hHeld=>?_)
   rw [←HW.out] at hHeld ⊢
   clear HW C47
   refine rU 0 (some 146) ?_
   refine rU 1 (some 147) ?_
   refine rU 2 (some 148) ?_
   refine rU 3 (some 149) ?_
   refine rU 5 (some 151) ?_
   refine rU 6 (some 152) ?_
   refine rU 7 (some 153) ?_
   refine rU 8 (some 154) ?_
   refine rU 9 (some 155) ?_
   refine rR1 4 (some 150) (fun K hK=>?_)
   go_simp
   clear hHeld
   refine(name_any C49.out.q (Nat.le_trans C49.out.hB C49.out.le) HB48.out nm HNM.out).mono ?_
   rw [HG9.out]
   rintro e w50 hp50
   obtain⟨rfl,cv50,nv50,vv50,C50⟩:=Mg.named C49.out hp50
   clear hp50 C49
   have HB51:Hid (Co.Bd (n+Co.wEs es+1) (g9.1)∧n+Co.wEs es+1≤900000):=zh ⟨HG9.out▸HB48.out.1.name nm,by have h9:=HT.out;omega⟩
   clear HB48
   go_wp2_with fail
   refine hK.out _ _ ?_ (fun hHeld=>?_)
   ·exact⟨zB (C50.out.b 1 rfl) (j:=1) rfl,zB (C50.out.b 0 rfl) (j:=0) rfl⟩
   clear hK K
   try simp only [Act.put,q0,q1,q2]
   refine rR1 10 (some 156) (fun K hK=>?_)
   go_simp
   clear hHeld
   rw [HW2.out]
   refine(zW C50.out.q (Nat.le_trans C50.out.hB C50.out.le) HB51.out (21) ((g9.2:Int)) ((NX:Int) - 1) ((NX:Int)) (0) ⟨by omega,by omega⟩ ⟨by omega,by omega⟩).mono ?_
   rintro e w52 hp52
   obtain⟨rfl,cv52,nv52,vv52,C52⟩:=Mg.done C50.out hp52
   clear hp52 C50
   have HB53:Hid (Co.Bd (n+Co.wEs es+1+NX+1) (Co.emit (g9.1) (21) ((g9.2:Int)) ((NX:Int) - 1) ((NX:Int)) (0))∧n+Co.wEs es+1+NX+1≤900000):=zh ⟨HB51.out.1.em (m:=NX) ⟨by omega,by omega⟩ ⟨by omega,by omega⟩,by have h9:=HT.out;omega⟩
   clear HB51
   go_wp2_with fail
   refine hK.out _ _ ?_ (fun hHeld=>?_)
   ·exact⟨zB (C52.out.b 1 rfl) (j:=1) rfl,zB (C52.out.b 0 rfl) (j:=0) rfl⟩
   clear hK K
   try simp only [Act.put,q0,q1,q2]
   refine wpAnyH_done (by kernel_rfl) ?_ _
   clear hHeld
   go_wp2_with fail
   go_end0
   have h9:=Mg.fin C52.out
   rw [HX.out] at h9
   exact h9
 ·subst hk
  obtain⟨x,rfl⟩:=zEC HOK.out (by omega)
  obtain rfl:NX=1:=HLX.out.symm
  rw [zAU] at C3
  have HVX:Hid (Tr.validE (Co.fold x)=true):=zh (Co.zAR x (zG HVE.out (j:=0) (e:=x) rfl))
  obtain⟨y,hy⟩:∃q,Co.fold x=q:=⟨_,rfl⟩
  rw [hy] at C3 HVX
  have HY:=zh hy
  have HT1:Hid (n+(33+Co.wE y+Co.wSs b+Co.wSs l)≤900000):=zh (by have h9:=HT.out;rw [Co.wEs,Co.wEs] at h9;simp only [List.length_cons,List.length_nil] at h9;have h8:=Co.zCS x;rw [hy] at h8;omega)
  clear hy HT
  have HT:=HT1
  obtain⟨b9,o9,hp9,_⟩:=Mg.elem C3.out 0 rfl (j:=0) (x:=y) rfl
  subst hp9
  have hx9:=HX.out
  rw [gS_6] at hx9
  rw [HY.out] at hx9
  have HX:=zh hx9
  clear hx9
  obtain⟨hly,pay,cay,⟨zy_0,zy_1,zy_2,zy_3,zy_4,zy_5⟩,hKy⟩:=Mg.elemE C3.out 0 rfl (j:=0) (x:=y) rfl (expr_any y.deep) (Nat.le_refl _) HVX.out ⟨HBD.out.1,by have h9:=HT.out;omega⟩
  obtain⟨ANy,hANy⟩:∃q,y.args.length=q:=⟨_,rfl⟩
  rw [hANy] at hKy zy_5
  unfold exprV at hKy
  simp only [Nat.zero_mul,Nat.add_zero] at zy_0 zy_1 zy_2 zy_3 zy_4 zy_5
  have HKy:=zh hKy
  clear hANy hKy
  have q1:=cells5 (C3.out.b 1 rfl)
  have q0:=cells1 (C3.out.b 0 rfl)
  go_wp2_with fail
  refine HKy.out.mono ?_
  rintro e w54 hp54
  obtain⟨rfl,cv54,nv54,vv54,C54⟩:=Mg.done C3.out hp54
  clear hp54 C3
  clear HKy hly zy_0 zy_1 zy_2 zy_3 zy_4 zy_5 q1 q0
  have HB55:Hid (Co.Bd (n+Co.wE y) (Co.gE cs cl.fields (g) y)∧n+Co.wE y≤900000):=zh ⟨Co.gE_bd cs cl.fields _ _ y HBD.out.1,by have h9:=HT.out;omega⟩
  clear HBD
  go_wp2_with fail
  refine(zW C54.out.q (Nat.le_trans C54.out.hB C54.out.le) HB55.out (22) (0) (0) (1) (0) ⟨by omega,by omega⟩ ⟨by omega,by omega⟩).mono ?_
  rintro e w56 hp56
  obtain⟨rfl,cv56,nv56,vv56,C56⟩:=Mg.done C54.out hp56
  clear hp56 C54
  have HB57:Hid (Co.Bd (n+Co.wE y+1+1) (Co.emit (Co.gE cs cl.fields (g) y) (22) (0) (0) (1) (0))∧n+Co.wE y+1+1≤900000):=zh ⟨HB55.out.1.em (m:=1) ⟨by omega,by omega⟩ ⟨by omega,by omega⟩,by have h9:=HT.out;omega⟩
  clear HB55
  go_wp2_with fail
  go_end0
  have h9:=Mg.fin C56.out
  rw [HX.out] at h9
  exact h9
 ·subst hk
  have hx9:=HX.out
  rw [gS_7] at hx9
  have HX:=zh hx9
  clear hx9
  have q1:=cells5 (C3.out.b 1 rfl)
  have q0:=cells1 (C3.out.b 0 rfl)
  go_wp2_with fail
  refine(Mg.eachE C3.out 0 rfl (expr_any (Tr.E.deep.deeps (Co.folds es))) (fun j x hx=>Tr.E.deeps_get _ j x hx) (Co.zAA es HVE.out) ⟨HBD.out.1,by have:=HT.out;have:=Co.zA2 es;omega⟩).mono ?_
  rintro e w58 hp58
  obtain⟨rfl,cv58,nv58,vv58,C58⟩:=Mg.done C3.out hp58
  clear hp58 C3
  clear q1 q0
  have HB59:Hid (Co.Bd (n+Co.wEs es) (Co.gEs cs cl.fields (g) (Co.folds es))∧n+Co.wEs es≤900000):=zh ⟨(Co.zB7 cs cl.fields _ _ (Co.folds es) HBD.out.1).mono (by have:=Co.zA2 es;omega),by have h9:=HT.out;omega⟩
  clear HBD
  go_wp2_with fail
  refine(zW C58.out.q (Nat.le_trans C58.out.hB C58.out.le) HB59.out (23) (0) (0) (2) (0) ⟨by omega,by omega⟩ ⟨by omega,by omega⟩).mono ?_
  rintro e w60 hp60
  obtain⟨rfl,cv60,nv60,vv60,C60⟩:=Mg.done C58.out hp60
  clear hp60 C58
  have HB61:Hid (Co.Bd (n+Co.wEs es+2+1) (Co.emit (Co.gEs cs cl.fields (g) (Co.folds es)) (23) (0) (0) (2) (0))∧n+Co.wEs es+2+1≤900000):=zh ⟨HB59.out.1.em (m:=2) ⟨by omega,by omega⟩ ⟨by omega,by omega⟩,by have h9:=HT.out;omega⟩
  clear HB59
  go_wp2_with fail
  go_end0
  have h9:=Mg.fin C60.out
  rw [HX.out] at h9
  exact h9
 ·subst hk
  have hx9:=HX.out
  rw [gS_8] at hx9
  have HX:=zh hx9
  clear hx9
  have q1:=cells5 (C3.out.b 1 rfl)
  have q0:=cells1 (C3.out.b 0 rfl)
  go_wp2_with fail
  refine(Mg.eachE C3.out 0 rfl (expr_any (Tr.E.deep.deeps (Co.folds es))) (fun j x hx=>Tr.E.deeps_get _ j x hx) (Co.zAA es HVE.out) ⟨HBD.out.1,by have:=HT.out;have:=Co.zA2 es;omega⟩).mono ?_
  rintro e w62 hp62
  obtain⟨rfl,cv62,nv62,vv62,C62⟩:=Mg.done C3.out hp62
  clear hp62 C3
  clear q1 q0
  have HB63:Hid (Co.Bd (n+Co.wEs es) (Co.gEs cs cl.fields (g) (Co.folds es))∧n+Co.wEs es≤900000):=zh ⟨(Co.zB7 cs cl.fields _ _ (Co.folds es) HBD.out.1).mono (by have:=Co.zA2 es;omega),by have h9:=HT.out;omega⟩
  clear HBD
  obtain⟨g9,hg9⟩:∃q,Co.name (Co.gEs cs cl.fields (g) (Co.folds es)) nm=q:=⟨_,rfl⟩
  have HG9:=zh hg9
  rw [hg9] at HX
  clear hg9
  have q1:=cells5 (C62.out.b 1 rfl)
  go_wp2_with fail
  refine(name_any C62.out.q (Nat.le_trans C62.out.hB C62.out.le) HB63.out nm HNM.out).mono ?_
  rw [HG9.out]
  rintro e w64 hp64
  obtain⟨rfl,cv64,nv64,vv64,C64⟩:=Mg.named C62.out hp64
  clear hp64 C62
  clear q1
  have HB65:Hid (Co.Bd (n+Co.wEs es+1) (g9.1)∧n+Co.wEs es+1≤900000):=zh ⟨HG9.out▸HB63.out.1.name nm,by have h9:=HT.out;omega⟩
  clear HB63
  go_wp2_with fail
  refine(zW C64.out.q (Nat.le_trans C64.out.hB C64.out.le) HB65.out (24) ((g9.2:Int)) (0) (2) (0) ⟨by omega,by omega⟩ ⟨by omega,by omega⟩).mono ?_
  rintro e w66 hp66
  obtain⟨rfl,cv66,nv66,vv66,C66⟩:=Mg.done C64.out hp66
  clear hp66 C64
  have HB67:Hid (Co.Bd (n+Co.wEs es+1+2+1) (Co.emit (g9.1) (24) ((g9.2:Int)) (0) (2) (0))∧n+Co.wEs es+1+2+1≤900000):=zh ⟨HB65.out.1.em (m:=2) ⟨by omega,by omega⟩ ⟨by omega,by omega⟩,by have h9:=HT.out;omega⟩
  clear HB65
  go_wp2_with fail
  go_end0
  have h9:=Mg.fin C66.out
  rw [HX.out] at h9
  exact h9
 ·subst hk
  have hx9:=HX.out
  rw [gS_9] at hx9
  have HX:=zh hx9
  clear hx9
  have q1:=cells5 (C3.out.b 1 rfl)
  have q0:=cells1 (C3.out.b 0 rfl)
  go_wp2_with fail
  clear q1 q0
  refine(zW C3.out.q (Nat.le_trans C3.out.hB C3.out.le) HBD.out (25) (0) (0) (0) (0) ⟨by omega,by omega⟩ ⟨by omega,by omega⟩).mono ?_
  rintro e w68 hp68
  obtain⟨rfl,cv68,nv68,vv68,C68⟩:=Mg.done C3.out hp68
  clear hp68 C3
  have HB69:Hid (Co.Bd (n+1+1) (Co.emit (g) (25) (0) (0) (0) (0))∧n+1+1≤900000):=zh ⟨HBD.out.1.em (m:=1) ⟨by omega,by omega⟩ ⟨by omega,by omega⟩,by have h9:=HT.out;omega⟩
  clear HBD
  go_wp2_with fail
  go_end0
  have h9:=Mg.fin C68.out
  rw [HX.out] at h9
  exact h9
end Cw
end Go.Proofs.YtcnmfcgmnkncaaaGreatDoor
namespace Go.Proofs.YtcnmfcgmnkncaaaGreatDoor
open Go.RowKit
namespace Tr
theorem zNR {n:Int} (h:n<0):∀l,leftMs l n=n
 | []=>rfl
 |e::r=>by rw [leftMs,if_pos h]
theorem zGN {n:Int} (h:0≤n) (e:M) (r:List M):leftMs (e::r) n=leftMs r (leftM e n):=by rw [leftMs,if_neg (by omega)]
theorem zNT {n:Int} (h:n<0):∀l,leftCs l n=n
 | []=>rfl
 |e::r=>by rw [leftCs,if_pos h]
theorem zLJ {n:Int} (h:0≤n) (e:C) (r:List C):leftCs (e::r) n=leftCs r (leftC e n):=by rw [leftCs,if_neg (by omega)]
end Tr
end Go.Proofs.YtcnmfcgmnkncaaaGreatDoor
