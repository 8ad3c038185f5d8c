/-
  the closure of stmt, each at it.
-/
import Derived.Test.YtcnmfcgmnkncaaaGreatDoorG6
import Derived.Test.YtcnmfcgmnkncaaaGreatDoorG9
import Derived.Test.YtcnmfcgmnkncaaaGreatDoorG11
import Derived.Test.YtcnmfcgmnkncaaaGreatDoorG8
namespace Go.Proofs.YtcnmfcgmnkncaaaGreatDoor
namespace Cw
open Go.RowKit Go.Maps Pw
theorem six_of {W:World} {X:Nat} {v0 v1 v2 v3 v4 v5:Value} {t:TypeId} (h:W.heap[X]? =some (.cells #[v0,v1,v2,v3,v4,v5] t (0,0))):W.cell? ⟨X,0,none⟩=some v0∧W.cell? ⟨X,1,none⟩=some v1∧W.cell? ⟨X,2,none⟩=some v2∧W.cell? ⟨X,3,none⟩=some v3∧W.cell? ⟨X,4,none⟩=some v4∧W.cell? ⟨X,5,none⟩=some v5:=
 ⟨cell_of_blkP h (j:=0) rfl,cell_of_blkP h (j:=1) rfl,cell_of_blkP h (j:=2) rfl,cell_of_blkP h (j:=3) rfl,cell_of_blkP h (j:=4) rfl,cell_of_blkP h (j:=5) rfl⟩
theorem rR3 {P:Program} {ops:Array Oper} {Q:Exit→Act→World→Prop} {md:Region.Mode} {S:World→Prop} {fuel:Nat} {listed:Array Bool} {a:Act} {w:World} {x1:Op} {x2:TypeId} {x3:String} {x4:Array Edge} {x5:Option (Nat × Bool)} {y1:Op} {y2:TypeId} {y3:String} {y4:Array Edge} {y5:Option (Nat × Bool)} {z1:Op} {z2:TypeId} {z3:String} {z4:Array Edge} {z5:Option (Nat × Bool)} (i:Nat) (d:Option Nat) (j:Nat) (d':Option Nat) (m:Nat) (d2:Option Nat)
 (h:∀K':Act→World→Prop,Shut (∀a w,S w→(S w→wpAnyH P md ops Q S fuel (listed.setIfInBounds i true) a w)→K' a w)→if Region.wanted ⟨d,x1,x2,x3,x4,x5⟩ (yielded ops a.tmps)=true then Oper.wp P ⟨d,x1,x2,x3,x4,x5⟩ a w K' Q else K' (a.put d undef) w)
 (h':∀K':Act→World→Prop,Shut (∀a w,S w→(S w→wpAnyH P md ops Q S fuel (listed.setIfInBounds j true) a w)→K' a w)→if Region.wanted ⟨d',y1,y2,y3,y4,y5⟩ (yielded ops a.tmps)=true then Oper.wp P ⟨d',y1,y2,y3,y4,y5⟩ a w K' Q else K' (a.put d' undef) w)
 (h2:∀K':Act→World→Prop,Shut (∀a w,S w→(S w→wpAnyH P md ops Q S fuel (listed.setIfInBounds m true) a w)→K' a w)→if Region.wanted ⟨d2,z1,z2,z3,z4,z5⟩ (yielded ops a.tmps)=true then Oper.wp P ⟨d2,z1,z2,z3,z4,z5⟩ a w K' Q else K' (a.put d2 undef) w)
 (hr:Region.ready md ops listed= [i,j,m]:=by kernel_rfl) (hi:ops[i]? =some ⟨d,x1,x2,x3,x4,x5⟩:=by rfl) (hj:ops[j]? =some ⟨d',y1,y2,y3,y4,y5⟩:=by rfl) (hm:ops[m]? =some ⟨d2,z1,z2,z3,z4,z5⟩:=by rfl):wpAnyH P md ops Q S (fuel+1) listed a w:=
 wpAnyH_ready hr (by simp) (AllReadyH.cons hi h (AllReadyH.cons hj h' (AllReadyH.cons hm h2 AllReadyH.nil)))
theorem lo_My {w W W':World} {bs bs':List Bk} {a:Value} {l:List Tr.E} (h:My w bs [] W) (h':My w bs' [] W') (hs:W.heap.size≤W'.heap.size) (hS:SlE (loW w.heap.size W) a l):SlE W' a l:=
 SlE.inc (SlE.inc hS (lo_inc hs (fun b _ h0=>((My.fin h').block b h0).trans ((My.fin h).block b h0).symm))) (hide_inc _ _)
theorem zeroET {W:World}:ReadET W (.mk 0 0 0 ⟨#[]⟩ false [],.slice none 0 0):=⟨⟨i64_small (n:=0) (by decide) (by decide),i64_small (n:=0) (by decide) (by decide),i64_small (n:=0) (by decide) (by decide),size_nil⟩,.nil none 0⟩
theorem RowOk.last {B:Nat} {l:List Nat} {W:World} {p:Option Addr} {n c:Nat} {tr:List ET} {z:ET} (h:RowOk eCells 6 37 ReadET B l W (.slice p n c) (tr++ [z])) {m:Nat} (hm:tr.length=m):n=m+1∧∃g,p=some ⟨g,0,none⟩∧B≤g∧g<W.heap.size∧(∀q∈l,g≠q)∧∀j,j<6→(∃u,W.cell? ⟨g,m*6+j,none⟩=some u)∧W.frozen? ⟨g,m*6+j,none⟩=false:=by
 rcases h.own.2 with ⟨e,h2⟩|⟨b,cap,cur,e,hb,hblk,hn,hmx,hcs,ht⟩
 ·have h3:=h.own.1
  rw [List.length_append] at h3
  injection e with e1 e2 e3
  exfalso
  rw [List.length_append] at h2
  have:([z]:List ET).length=1:=rfl
  omega
 ·injection e with e1 e2 e3
  subst e1 e3
  rw [List.length_append,hm] at e2 hn
  refine⟨e2,b,rfl,hb,lt_of_block hblk,fun q hq e=>h.nin q hq (by rw [←e];rfl),fun j hj=>?_⟩
  have hsz:m*6+j<cur.size:=by
   have:([z]:List ET).length=1:=rfl
   omega
  exact⟨⟨cur[m*6+j],cell_of_blkP hblk (Array.getElem?_eq_getElem hsz)⟩,blk_free hblk _⟩
set_option maxRecDepth 100000 in
set_option maxHeartbeats 16000000 in
theorem st1_any {w W:World} {B:Nat} {v:Value} {tr:List ET} (h:My w [(B,#[v],35)] [] W) (hr:RowOk eCells 6 37 ReadET w.heap.size [B] W v (tr)) (htl:tr.length≤900000) (x:Tr.E) (a:Value) (hw:Co.wE x≤900000) (hv:Tr.validE x=true) (hbd:BdE x) (hs:SlE (loW w.heap.size W) a x.args):
 Calls Tryz.prog 131 #[exprV x a,.pointer (some ⟨B,0,none⟩)] W (fun e W'=>e= .returned (.tuple #[])∧∃v' a',My w [(B,#[v'],35)] [] W'∧RowOk eCells 6 37 ReadET w.heap.size [B] W' v' (tr++ [(Co.fold x,a')])):=by
 obtain⟨i0,hi0,hz0,hz1,hz2⟩:=info_parts exprInfo
 obtain⟨pa,ca,rfl,_⟩:=SlE.form hs
 obtain⟨AX,hAX⟩:∃q,x.args.length=q:=⟨_,rfl⟩
 rw [hAX] at hs
 obtain⟨y,hy⟩:∃q,Co.fold x=q:=⟨_,rfl⟩
 have KF:Hid (∀(bs':List Bk) (W':World),My w bs' [] W'→W.heap.size≤W'.heap.size→Calls Tryz.prog 41 #[exprV x (.slice pa AX ca)] W' (FP y W')):=Lib.hid (fun bs' W' h' hsz=>by rw [←hy];exact fold_any _ x _ W' (Nat.le_refl _) hw hv hbd (lo_My h h' hsz hs))
 unfold exprV at KF
 obtain⟨pv,cv,rfl⟩:=own_form hr.own
 obtain⟨n,hn⟩:∃q,tr.length=q:=⟨_,rfl⟩
 rw [hn] at hr h htl
 have C0:=Lib.hid h
 have HR0:=Lib.hid hr
 have HN:=Lib.hid hn
 have HSZ0:=Lib.hid (Nat.le_refl W.heap.size)
 unfold exprV
 rw [hAX,hy]
 clear h hr hs hw hv hbd hn hAX hy
 obtain⟨E,w1,HX,HW,hx1,C1⟩:=C0.out.boxE #[.int .i64 x.kind,.int .i64 x.op,.int .i64 x.int,.string x.name,.bool x.at_,.slice pa AX ca] 37
 have HR1:=Lib.hid (HR0.out.box readET_mono HX.out (.cells #[.int .i64 x.kind,.int .i64 x.op,.int .i64 x.int,.string x.name,.bool x.at_,.slice pa AX ca] 37))
 rw [←HW.out] at HR1
 have HSZ1:Hid (W.heap.size≤w1.heap.size):=Lib.hid (by rw [HW.out,World.size_alloc];omega)
 go_enter Tryz.func131,Tryz.ntmps131
 go_upto_region 1 with fail
 rw [←HX.out,←HW.out]
 clear HX HW C0 HR0 HSZ0
 obtain⟨w2,HW,C2⟩:=C1.out.drewE
 have hbd9:Below w1.heap.size w1 w2:=by rw [HW.out];exact gr_fresh (gr_drew (gr_refl _ _))
 have HR2:=Lib.hid (HR1.out.below readET_mono hbd9)
 have HSZ2:=Lib.hid (Nat.le_trans HSZ1.out hbd9.size)
 clear hbd9 HR1 HSZ1
 refine wp_region_held_drew (S:=fun W=>W.cell? ⟨E,0,none⟩=some (.int .i64 x.kind)∧W.cell? ⟨E,1,none⟩=some (.int .i64 x.op)∧W.cell? ⟨E,2,none⟩=some (.int .i64 x.int)∧W.cell? ⟨E,3,none⟩=some (.string x.name)∧W.cell? ⟨E,4,none⟩=some (.bool x.at_)∧W.cell? ⟨E,5,none⟩=some (.slice pa AX ca)) (by kernel_rfl) (by rw [←HW.out];exact six_of (C2.out.b 0 rfl)) (fun hHeld=>?_)
 rw [←HW.out] at hHeld ⊢
 clear HW C1
 refine rT 1 (some 4) ?_
 try simp only [Act.put,q0,q1,q2]
 clear hHeld
 refine rR3 0 (some 3) 2 (some 5) 4 (some 7) (fun K hK=>?_) (fun K hK=>?_) (fun K hK=>?_)
 ·have q1:=cells1 (C2.out.b 1 rfl)
  go_simp
  refine hK.out _ _ ?_ (fun hHeld=>?_)
  ·exact six_of (C2.out.b 0 rfl)
  clear hK K hHeld
  try simp only [Act.put,q0,q1,q2]
  clear q1
  have hHeld:=six_of (C2.out.b 0 rfl)
  refine rT 3 (some 6) ?_
  try simp only [Act.put,q0,q1,q2]
  clear hHeld
  refine rR2 2 (some 5) 4 (some 7) (fun K hK=>?_) (fun K hK=>?_)
  ·go_simp
   refine(KF.out _ w2 C2.out HSZ2.out).mono ?_
   rintro e w3 ⟨a',rfl,hby,hsy,hb⟩
   obtain⟨py,cy,rfl,_⟩:=hsy.form
   obtain⟨AN,hAN⟩:∃q,y.args.length=q:=⟨_,rfl⟩
   rw [hAN] at hsy ⊢
   have HAN:=Lib.hid hAN
   have HBY:=Lib.hid hby
   have HR3:=Lib.hid (HR2.out.below readET_mono hb)
   have HSZ3:=Lib.hid (Nat.le_trans HSZ2.out hb.size)
   have HP3:=Lib.hid (SlE.inc hsy (HR2.out.pend C2.out.le (fun q hq=>(C2.out.lts hq).2.1)))
   have C3:=Lib.hid (C2.out.below hb)
   clear hb hsy hby hAN C2 HR2 HSZ2
   unfold exprV
   go_wp2_with fail
   refine hK.out _ _ ?_ (fun hHeld=>?_)
   ·exact six_of (C3.out.b 0 rfl)
   clear hK K hHeld
   try simp only [Act.put,q0,q1,q2]
   refine rR1 4 (some 7) (fun K hK=>?_)
   obtain⟨G,w5,HG,HWG,hxg,C5⟩:=C3.out.boxE #[.int .i64 0,.int .i64 0,.int .i64 0,.string ⟨#[]⟩,.bool false,.slice none 0 0] 37
   have HR5:=Lib.hid (HR3.out.box readET_mono HG.out (.cells #[.int .i64 0,.int .i64 0,.int .i64 0,.string ⟨#[]⟩,.bool false,.slice none 0 0] 37))
   rw [←HWG.out] at HR5
   have HSZ5:Hid (W.heap.size≤w5.heap.size):=Lib.hid (by have h9:=HSZ3.out;rw [HWG.out,World.size_alloc];omega)
   have HP5:=Lib.hid (SlE.inc HP3.out (pend_box HG.out (.cells #[.int .i64 0,.int .i64 0,.int .i64 0,.string ⟨#[]⟩,.bool false,.slice none 0 0] 37)))
   rw [←HWG.out] at HP5
   go_simp
   rw [←HG.out,←HWG.out]
   refine hK.out _ _ ?_ (fun hHeld=>?_)
   ·exact six_of (C5.out.b 1 rfl)
   clear hK K hHeld
   try simp only [Act.put,q0,q1,q2]
   clear HG HWG C3 HR3 HSZ3 HP3
   refine rR1 5 (some 8) (fun K hK=>?_)
   refine step_push eCells_len (fun _ _ _ hi hx=>⟨readET_mono _ _ _ hi hx.1,SlE.inc hx.2 hi⟩) rfl _ _ 35 rfl i0 (.agg #[.int .i64 0,.int .i64 0,.int .i64 0,.string ⟨#[]⟩,.bool false,.slice none 0 0]) 72 Tryz.underlying35 hi0 hz0 hz1 hz2 rfl (by decide) _ [(.mk 0 0 0 ⟨#[]⟩ false [],.slice none 0 0)] rfl rfl (HR5.out.both (P:=fun U=>SlE U (.slice py AN cy) y.args) HP5.out) (SrcAt.of_blk (f:=eCells) (x:=(.mk 0 0 0 ⟨#[]⟩ false [],.slice none 0 0)) (C5.out.b 0 rfl) rfl) (fun x hx=>by rw [List.mem_singleton.1 hx];exact⟨zeroET,HP5.out⟩) (eCells_one (w:=w5) (fun x hx=>by rw [List.mem_singleton.1 hx];exact zeroET)) (by have:=HN.out;simp only [List.length_cons,List.length_nil];unfold maxLen;omega) (by have:=HN.out;simp only [List.length_cons,List.length_nil];omega) C5.out.le (fun q hq=>(C5.out.lts hq).2.1) ?_
   intro v6 w6 hr hg
   have C6:=Lib.hid (My.push C5.out hg (fun q hq=>⟨(HR5.out.ge hq).1,fun hm=>HR5.out.nin q hm hq⟩))
   have HSZ6:=Lib.hid (Nat.le_trans HSZ5.out hg.size)
   obtain⟨p6,c6,rfl⟩:=own_form hr.own
   obtain⟨m6,hm6⟩:∃q,(tr++ [(.mk 0 0 0 ⟨#[]⟩ false [],.slice none 0 0)]:List ET).length=q:=⟨_,rfl⟩
   rw [hm6] at hr ⊢
   clear hm6
   have HR6:=Lib.hid hr.left
   have HP6:=Lib.hid (hr.right (x:=(.mk 0 0 0 ⟨#[]⟩ false [],.slice none 0 0)) (List.mem_append.2 (.inr (List.mem_cons_self ..))))
   clear hr hg C5 HR5 HSZ5 HP5
   refine hK.out _ _ ?_ (fun hHeld=>?_)
   ·exact six_of (C6.out.b 1 rfl)
   clear hK K hHeld
   try simp only [Act.put,q0,q1,q2]
   obtain⟨hm9,g,hp9,hBg,hgl,hgn,hgc⟩:=HR6.out.last HN.out
   subst hm9 hp9
   clear hBg hgl hgn hgc
   have b1:(0:Int)≤(n:Int):=by omega
   have b2:(n:Int)<(n:Int)+1:=by omega
   have hHeld:=six_of (C6.out.b 1 rfl)
   refine rT 6 (some 9) ?_
   try simp only [Act.put,q0,q1,q2]
   refine rR2 7 none 8 none (fun K hK=>?_) (fun K hK=>?_)
   ·obtain⟨_,g9,hp9,hBg,hgl,hgn,hgc⟩:=HR6.out.last HN.out
    cases hp9
    obtain⟨⟨u0,k0⟩,f0⟩:=hgc 0 (by decide)
    obtain⟨⟨u1,k1⟩,f1⟩:=hgc 1 (by decide)
    obtain⟨⟨u2,k2⟩,f2⟩:=hgc 2 (by decide)
    obtain⟨⟨u3,k3⟩,f3⟩:=hgc 3 (by decide)
    obtain⟨⟨u4,k4⟩,f4⟩:=hgc 4 (by decide)
    obtain⟨⟨u5,k5⟩,f5⟩:=hgc 5 (by decide)
    rw [Nat.add_zero] at k0 f0
    obtain⟨w7,HW⟩:∃q,Hid (q=((((((w6.setCell ⟨g,n*6,none⟩ (.int .i64 y.kind)).setCell ⟨g,n*6+1,none⟩ (.int .i64 y.op)).setCell ⟨g,n*6+2,none⟩ (.int .i64 y.int)).setCell ⟨g,n*6+3,none⟩ (.string y.name)).setCell ⟨g,n*6+4,none⟩ (.bool y.at_)).setCell ⟨g,n*6+5,none⟩ (.slice py AN cy))):=⟨_,Lib.hid rfl⟩
    have HR7:=Lib.hid (HR6.out.put (z:=(.mk 0 0 0 ⟨#[]⟩ false [],.slice none 0 0)) y (.slice py AN cy) ⟨HBY.out,by have h9:=HP6.out;exact h9⟩ HN.out HW.out)
    have hgr:w6.grownBy w7 (some g):=by rw [HW.out];exact set6o_gr w6 g (n*6) _ _ _ _ _ _
    have C7:=Lib.hid (My.push C6.out hgr (fun q hq=>by injection hq with hq;subst hq;exact⟨hBg,fun hm=>hgn _ hm rfl⟩))
    go_simp
    rw [←HW.out]
    refine hK.out _ _ ?_ (fun hHeld=>?_)
    ·exact six_of (C7.out.b 1 rfl)
    clear hK K hHeld
    try simp only [Act.put,q0,q1,q2]
    clear HW hgr C6 HR6 HP6 hBg hgl hgn hgc k0 f0 k1 f1 k2 f2 k3 f3 k4 f4 k5 f5
    refine rR1 8 none (fun K hK=>?_)
    have q2:=cells1 (C7.out.b 2 rfl)
    obtain⟨w8,HW⟩:∃q,Hid (q=w7.setCell ⟨B,0,none⟩ (.slice (some ⟨g,0,none⟩) (n+1) c6)):=⟨_,Lib.hid rfl⟩
    have hgr:w7.grownBy w8 (some B):=by rw [HW.out];exact gr_set w7 B 0 _
    have C8:=Lib.hid ((C7.out.set (W':=w8) 2 rfl hgr (by rw [HW.out];exact heap_set (j:=0) _ (C7.out.b 2 rfl))).nrm (bs':= [(G,#[.int .i64 0,.int .i64 0,.int .i64 0,.string ⟨#[]⟩,.bool false,.slice none 0 0],37),(E,#[.int .i64 x.kind,.int .i64 x.op,.int .i64 x.int,.string x.name,.bool x.at_,.slice pa AX ca],37),(B,#[.slice (some ⟨g,0,none⟩) (n+1) c6],35)]) rfl)
    have HR8:=Lib.hid (HR7.out.keep readET_mono hgr (fun q e=>by injection e with e;subst e;exact .inr (by simp)) (fun q e h9=>HR7.out.nin B (by simp) (by rw [h9];exact e.symm)))
    go_simp
    rw [←HW.out]
    refine hK.out _ _ ?_ (fun hHeld=>?_)
    ·exact six_of (C8.out.b 1 rfl)
    clear hK K hHeld
    try simp only [Act.put,q0,q1,q2]
    clear HW hgr C7 HR7  q2
    refine wpAnyH_done (by kernel_rfl) ?_ _
    go_wp2_with fail
    go_end0
    exact⟨rfl,_,C8.out.tl.tl,_,HR8.out.sub readET_mono (fun q hq=>List.mem_cons_of_mem _ (List.mem_cons_of_mem _ hq))⟩
   ·have q2:=cells1 (C6.out.b 2 rfl)
    obtain⟨w9,HW⟩:∃q,Hid (q=w6.setCell ⟨B,0,none⟩ (.slice (some ⟨g,0,none⟩) (n+1) c6)):=⟨_,Lib.hid rfl⟩
    have hgr:w6.grownBy w9 (some B):=by rw [HW.out];exact gr_set w6 B 0 _
    have C9:=Lib.hid ((C6.out.set (W':=w9) 2 rfl hgr (by rw [HW.out];exact heap_set (j:=0) _ (C6.out.b 2 rfl))).nrm (bs':= [(G,#[.int .i64 0,.int .i64 0,.int .i64 0,.string ⟨#[]⟩,.bool false,.slice none 0 0],37),(E,#[.int .i64 x.kind,.int .i64 x.op,.int .i64 x.int,.string x.name,.bool x.at_,.slice pa AX ca],37),(B,#[.slice (some ⟨g,0,none⟩) (n+1) c6],35)]) rfl)
    have HR9:=Lib.hid (HR6.out.keep readET_mono hgr (fun q e=>by injection e with e;subst e;exact .inr (by simp)) (fun q e h9=>HR6.out.nin B (by simp) (by rw [h9];exact e.symm)))
    have HP9:=Lib.hid (SlE.inc HP6.out (up_step (B':=w.heap.size) (l':= [G,E,B]++ownL (.slice (some ⟨g,0,none⟩) (n+1) c6)) hgr (fun q e=>by injection e with e;subst e;exact .inr (by simp)) (fun _ _ h=>h)))
    go_simp
    rw [←HW.out]
    refine hK.out _ _ ?_ (fun hHeld=>?_)
    ·exact six_of (C9.out.b 1 rfl)
    clear hK K hHeld
    try simp only [Act.put,q0,q1,q2]
    clear HW hgr C6 HR6 HP6 q2
    refine rR1 7 none (fun K hK=>?_)
    obtain⟨_,g9,hp9,hBg,hgl,hgn,hgc⟩:=HR9.out.last HN.out
    cases hp9
    obtain⟨⟨u0,k0⟩,f0⟩:=hgc 0 (by decide)
    obtain⟨⟨u1,k1⟩,f1⟩:=hgc 1 (by decide)
    obtain⟨⟨u2,k2⟩,f2⟩:=hgc 2 (by decide)
    obtain⟨⟨u3,k3⟩,f3⟩:=hgc 3 (by decide)
    obtain⟨⟨u4,k4⟩,f4⟩:=hgc 4 (by decide)
    obtain⟨⟨u5,k5⟩,f5⟩:=hgc 5 (by decide)
    rw [Nat.add_zero] at k0 f0
    obtain⟨w10,HW⟩:∃q,Hid (q=((((((w9.setCell ⟨g,n*6,none⟩ (.int .i64 y.kind)).setCell ⟨g,n*6+1,none⟩ (.int .i64 y.op)).setCell ⟨g,n*6+2,none⟩ (.int .i64 y.int)).setCell ⟨g,n*6+3,none⟩ (.string y.name)).setCell ⟨g,n*6+4,none⟩ (.bool y.at_)).setCell ⟨g,n*6+5,none⟩ (.slice py AN cy))):=⟨_,Lib.hid rfl⟩
    have HR10:=Lib.hid (HR9.out.put (z:=(.mk 0 0 0 ⟨#[]⟩ false [],.slice none 0 0)) y (.slice py AN cy) ⟨HBY.out,by have h9:=HP9.out;exact h9⟩ HN.out HW.out)
    have hgr:w9.grownBy w10 (some g):=by rw [HW.out];exact set6o_gr w9 g (n*6) _ _ _ _ _ _
    have C10:=Lib.hid (My.push C9.out hgr (fun q hq=>by injection hq with hq;subst hq;exact⟨hBg,fun hm=>hgn _ hm rfl⟩))
    go_simp
    rw [←HW.out]
    refine hK.out _ _ ?_ (fun hHeld=>?_)
    ·exact six_of (C10.out.b 1 rfl)
    clear hK K hHeld
    try simp only [Act.put,q0,q1,q2]
    clear HW hgr C9 HR9 HP9 hBg hgl hgn hgc k0 f0 k1 f1 k2 f2 k3 f3 k4 f4 k5 f5
    refine wpAnyH_done (by kernel_rfl) ?_ _
    go_wp2_with fail
    go_end0
    exact⟨rfl,_,C10.out.tl.tl,_,HR10.out.sub readET_mono (fun q hq=>List.mem_cons_of_mem _ (List.mem_cons_of_mem _ hq))⟩
  ·obtain⟨G,w11,HG,HWG,hxg,C11⟩:=C2.out.boxE #[.int .i64 0,.int .i64 0,.int .i64 0,.string ⟨#[]⟩,.bool false,.slice none 0 0] 37
   have HR11:=Lib.hid (HR2.out.box readET_mono HG.out (.cells #[.int .i64 0,.int .i64 0,.int .i64 0,.string ⟨#[]⟩,.bool false,.slice none 0 0] 37))
   rw [←HWG.out] at HR11
   have HSZ11:Hid (W.heap.size≤w11.heap.size):=Lib.hid (by have h9:=HSZ2.out;rw [HWG.out,World.size_alloc];omega)
   go_simp
   rw [←HG.out,←HWG.out]
   refine hK.out _ _ ?_ (fun hHeld=>?_)
   ·exact six_of (C11.out.b 1 rfl)
   clear hK K hHeld
   try simp only [Act.put,q0,q1,q2]
   clear HG HWG C2 HR2 HSZ2
   refine rR1 2 (some 5) (fun K hK=>?_)
   go_simp
   refine(KF.out _ w11 C11.out HSZ11.out).mono ?_
   rintro e w12 ⟨a',rfl,hby,hsy,hb⟩
   obtain⟨py,cy,rfl,_⟩:=hsy.form
   obtain⟨AN,hAN⟩:∃q,y.args.length=q:=⟨_,rfl⟩
   rw [hAN] at hsy ⊢
   have HAN:=Lib.hid hAN
   have HBY:=Lib.hid hby
   have HR12:=Lib.hid (HR11.out.below readET_mono hb)
   have HSZ12:=Lib.hid (Nat.le_trans HSZ11.out hb.size)
   have HP12:=Lib.hid (SlE.inc hsy (HR11.out.pend C11.out.le (fun q hq=>(C11.out.lts hq).2.1)))
   have C12:=Lib.hid (C11.out.below hb)
   clear hb hsy hby hAN C11 HR11 HSZ11
   unfold exprV
   go_wp2_with fail
   refine hK.out _ _ ?_ (fun hHeld=>?_)
   ·exact six_of (C12.out.b 1 rfl)
   clear hK K hHeld
   try simp only [Act.put,q0,q1,q2]
   refine rR1 5 (some 8) (fun K hK=>?_)
   refine step_push eCells_len (fun _ _ _ hi hx=>⟨readET_mono _ _ _ hi hx.1,SlE.inc hx.2 hi⟩) rfl _ _ 35 rfl i0 (.agg #[.int .i64 0,.int .i64 0,.int .i64 0,.string ⟨#[]⟩,.bool false,.slice none 0 0]) 72 Tryz.underlying35 hi0 hz0 hz1 hz2 rfl (by decide) _ [(.mk 0 0 0 ⟨#[]⟩ false [],.slice none 0 0)] rfl rfl (HR12.out.both (P:=fun U=>SlE U (.slice py AN cy) y.args) HP12.out) (SrcAt.of_blk (f:=eCells) (x:=(.mk 0 0 0 ⟨#[]⟩ false [],.slice none 0 0)) (C12.out.b 0 rfl) rfl) (fun x hx=>by rw [List.mem_singleton.1 hx];exact⟨zeroET,HP12.out⟩) (eCells_one (w:=w12) (fun x hx=>by rw [List.mem_singleton.1 hx];exact zeroET)) (by have:=HN.out;simp only [List.length_cons,List.length_nil];unfold maxLen;omega) (by have:=HN.out;simp only [List.length_cons,List.length_nil];omega) C12.out.le (fun q hq=>(C12.out.lts hq).2.1) ?_
   intro v14 w14 hr hg
   have C14:=Lib.hid (My.push C12.out hg (fun q hq=>⟨(HR12.out.ge hq).1,fun hm=>HR12.out.nin q hm hq⟩))
   have HSZ14:=Lib.hid (Nat.le_trans HSZ12.out hg.size)
   obtain⟨p14,c14,rfl⟩:=own_form hr.own
   obtain⟨m14,hm14⟩:∃q,(tr++ [(.mk 0 0 0 ⟨#[]⟩ false [],.slice none 0 0)]:List ET).length=q:=⟨_,rfl⟩
   rw [hm14] at hr ⊢
   clear hm14
   have HR14:=Lib.hid hr.left
   have HP14:=Lib.hid (hr.right (x:=(.mk 0 0 0 ⟨#[]⟩ false [],.slice none 0 0)) (List.mem_append.2 (.inr (List.mem_cons_self ..))))
   clear hr hg C12 HR12 HSZ12 HP12
   refine hK.out _ _ ?_ (fun hHeld=>?_)
   ·exact six_of (C14.out.b 1 rfl)
   clear hK K hHeld
   try simp only [Act.put,q0,q1,q2]
   obtain⟨hm9,g,hp9,hBg,hgl,hgn,hgc⟩:=HR14.out.last HN.out
   subst hm9 hp9
   clear hBg hgl hgn hgc
   have b1:(0:Int)≤(n:Int):=by omega
   have b2:(n:Int)<(n:Int)+1:=by omega
   have hHeld:=six_of (C14.out.b 1 rfl)
   refine rT 6 (some 9) ?_
   try simp only [Act.put,q0,q1,q2]
   refine rR2 7 none 8 none (fun K hK=>?_) (fun K hK=>?_)
   ·obtain⟨_,g9,hp9,hBg,hgl,hgn,hgc⟩:=HR14.out.last HN.out
    cases hp9
    obtain⟨⟨u0,k0⟩,f0⟩:=hgc 0 (by decide)
    obtain⟨⟨u1,k1⟩,f1⟩:=hgc 1 (by decide)
    obtain⟨⟨u2,k2⟩,f2⟩:=hgc 2 (by decide)
    obtain⟨⟨u3,k3⟩,f3⟩:=hgc 3 (by decide)
    obtain⟨⟨u4,k4⟩,f4⟩:=hgc 4 (by decide)
    obtain⟨⟨u5,k5⟩,f5⟩:=hgc 5 (by decide)
    rw [Nat.add_zero] at k0 f0
    obtain⟨w15,HW⟩:∃q,Hid (q=((((((w14.setCell ⟨g,n*6,none⟩ (.int .i64 y.kind)).setCell ⟨g,n*6+1,none⟩ (.int .i64 y.op)).setCell ⟨g,n*6+2,none⟩ (.int .i64 y.int)).setCell ⟨g,n*6+3,none⟩ (.string y.name)).setCell ⟨g,n*6+4,none⟩ (.bool y.at_)).setCell ⟨g,n*6+5,none⟩ (.slice py AN cy))):=⟨_,Lib.hid rfl⟩
    have HR15:=Lib.hid (HR14.out.put (z:=(.mk 0 0 0 ⟨#[]⟩ false [],.slice none 0 0)) y (.slice py AN cy) ⟨HBY.out,by have h9:=HP14.out;exact h9⟩ HN.out HW.out)
    have hgr:w14.grownBy w15 (some g):=by rw [HW.out];exact set6o_gr w14 g (n*6) _ _ _ _ _ _
    have C15:=Lib.hid (My.push C14.out hgr (fun q hq=>by injection hq with hq;subst hq;exact⟨hBg,fun hm=>hgn _ hm rfl⟩))
    go_simp
    rw [←HW.out]
    refine hK.out _ _ ?_ (fun hHeld=>?_)
    ·exact six_of (C15.out.b 1 rfl)
    clear hK K hHeld
    try simp only [Act.put,q0,q1,q2]
    clear HW hgr C14 HR14 HP14 hBg hgl hgn hgc k0 f0 k1 f1 k2 f2 k3 f3 k4 f4 k5 f5
    refine rR1 8 none (fun K hK=>?_)
    have q2:=cells1 (C15.out.b 2 rfl)
    obtain⟨w16,HW⟩:∃q,Hid (q=w15.setCell ⟨B,0,none⟩ (.slice (some ⟨g,0,none⟩) (n+1) c14)):=⟨_,Lib.hid rfl⟩
    have hgr:w15.grownBy w16 (some B):=by rw [HW.out];exact gr_set w15 B 0 _
    have C16:=Lib.hid ((C15.out.set (W':=w16) 2 rfl hgr (by rw [HW.out];exact heap_set (j:=0) _ (C15.out.b 2 rfl))).nrm (bs':= [(G,#[.int .i64 0,.int .i64 0,.int .i64 0,.string ⟨#[]⟩,.bool false,.slice none 0 0],37),(E,#[.int .i64 x.kind,.int .i64 x.op,.int .i64 x.int,.string x.name,.bool x.at_,.slice pa AX ca],37),(B,#[.slice (some ⟨g,0,none⟩) (n+1) c14],35)]) rfl)
    have HR16:=Lib.hid (HR15.out.keep readET_mono hgr (fun q e=>by injection e with e;subst e;exact .inr (by simp)) (fun q e h9=>HR15.out.nin B (by simp) (by rw [h9];exact e.symm)))
    go_simp
    rw [←HW.out]
    refine hK.out _ _ ?_ (fun hHeld=>?_)
    ·exact six_of (C16.out.b 1 rfl)
    clear hK K hHeld
    try simp only [Act.put,q0,q1,q2]
    clear HW hgr C15 HR15  q2
    refine wpAnyH_done (by kernel_rfl) ?_ _
    go_wp2_with fail
    go_end0
    exact⟨rfl,_,C16.out.tl.tl,_,HR16.out.sub readET_mono (fun q hq=>List.mem_cons_of_mem _ (List.mem_cons_of_mem _ hq))⟩
   ·have q2:=cells1 (C14.out.b 2 rfl)
    obtain⟨w17,HW⟩:∃q,Hid (q=w14.setCell ⟨B,0,none⟩ (.slice (some ⟨g,0,none⟩) (n+1) c14)):=⟨_,Lib.hid rfl⟩
    have hgr:w14.grownBy w17 (some B):=by rw [HW.out];exact gr_set w14 B 0 _
    have C17:=Lib.hid ((C14.out.set (W':=w17) 2 rfl hgr (by rw [HW.out];exact heap_set (j:=0) _ (C14.out.b 2 rfl))).nrm (bs':= [(G,#[.int .i64 0,.int .i64 0,.int .i64 0,.string ⟨#[]⟩,.bool false,.slice none 0 0],37),(E,#[.int .i64 x.kind,.int .i64 x.op,.int .i64 x.int,.string x.name,.bool x.at_,.slice pa AX ca],37),(B,#[.slice (some ⟨g,0,none⟩) (n+1) c14],35)]) rfl)
    have HR17:=Lib.hid (HR14.out.keep readET_mono hgr (fun q e=>by injection e with e;subst e;exact .inr (by simp)) (fun q e h9=>HR14.out.nin B (by simp) (by rw [h9];exact e.symm)))
    have HP17:=Lib.hid (SlE.inc HP14.out (up_step (B':=w.heap.size) (l':= [G,E,B]++ownL (.slice (some ⟨g,0,none⟩) (n+1) c14)) hgr (fun q e=>by injection e with e;subst e;exact .inr (by simp)) (fun _ _ h=>h)))
    go_simp
    rw [←HW.out]
    refine hK.out _ _ ?_ (fun hHeld=>?_)
    ·exact six_of (C17.out.b 1 rfl)
    clear hK K hHeld
    try simp only [Act.put,q0,q1,q2]
    clear HW hgr C14 HR14 HP14 q2
    refine rR1 7 none (fun K hK=>?_)
    obtain⟨_,g9,hp9,hBg,hgl,hgn,hgc⟩:=HR17.out.last HN.out
    cases hp9
    obtain⟨⟨u0,k0⟩,f0⟩:=hgc 0 (by decide)
    obtain⟨⟨u1,k1⟩,f1⟩:=hgc 1 (by decide)
    obtain⟨⟨u2,k2⟩,f2⟩:=hgc 2 (by decide)
    obtain⟨⟨u3,k3⟩,f3⟩:=hgc 3 (by decide)
    obtain⟨⟨u4,k4⟩,f4⟩:=hgc 4 (by decide)
    obtain⟨⟨u5,k5⟩,f5⟩:=hgc 5 (by decide)
    rw [Nat.add_zero] at k0 f0
    obtain⟨w18,HW⟩:∃q,Hid (q=((((((w17.setCell ⟨g,n*6,none⟩ (.int .i64 y.kind)).setCell ⟨g,n*6+1,none⟩ (.int .i64 y.op)).setCell ⟨g,n*6+2,none⟩ (.int .i64 y.int)).setCell ⟨g,n*6+3,none⟩ (.string y.name)).setCell ⟨g,n*6+4,none⟩ (.bool y.at_)).setCell ⟨g,n*6+5,none⟩ (.slice py AN cy))):=⟨_,Lib.hid rfl⟩
    have HR18:=Lib.hid (HR17.out.put (z:=(.mk 0 0 0 ⟨#[]⟩ false [],.slice none 0 0)) y (.slice py AN cy) ⟨HBY.out,by have h9:=HP17.out;exact h9⟩ HN.out HW.out)
    have hgr:w17.grownBy w18 (some g):=by rw [HW.out];exact set6o_gr w17 g (n*6) _ _ _ _ _ _
    have C18:=Lib.hid (My.push C17.out hgr (fun q hq=>by injection hq with hq;subst hq;exact⟨hBg,fun hm=>hgn _ hm rfl⟩))
    go_simp
    rw [←HW.out]
    refine hK.out _ _ ?_ (fun hHeld=>?_)
    ·exact six_of (C18.out.b 1 rfl)
    clear hK K hHeld
    try simp only [Act.put,q0,q1,q2]
    clear HW hgr C17 HR17 HP17 hBg hgl hgn hgc k0 f0 k1 f1 k2 f2 k3 f3 k4 f4 k5 f5
    refine wpAnyH_done (by kernel_rfl) ?_ _
    go_wp2_with fail
    go_end0
    exact⟨rfl,_,C18.out.tl.tl,_,HR18.out.sub readET_mono (fun q hq=>List.mem_cons_of_mem _ (List.mem_cons_of_mem _ hq))⟩
 ·go_simp
  refine(KF.out _ w2 C2.out HSZ2.out).mono ?_
  rintro e w19 ⟨a',rfl,hby,hsy,hb⟩
  obtain⟨py,cy,rfl,_⟩:=hsy.form
  obtain⟨AN,hAN⟩:∃q,y.args.length=q:=⟨_,rfl⟩
  rw [hAN] at hsy ⊢
  have HAN:=Lib.hid hAN
  have HBY:=Lib.hid hby
  have HR19:=Lib.hid (HR2.out.below readET_mono hb)
  have HSZ19:=Lib.hid (Nat.le_trans HSZ2.out hb.size)
  have HP19:=Lib.hid (SlE.inc hsy (HR2.out.pend C2.out.le (fun q hq=>(C2.out.lts hq).2.1)))
  have C19:=Lib.hid (C2.out.below hb)
  clear hb hsy hby hAN C2 HR2 HSZ2
  unfold exprV
  go_wp2_with fail
  refine hK.out _ _ ?_ (fun hHeld=>?_)
  ·exact six_of (C19.out.b 0 rfl)
  clear hK K hHeld
  try simp only [Act.put,q0,q1,q2]
  refine rR2 0 (some 3) 4 (some 7) (fun K hK=>?_) (fun K hK=>?_)
  ·have q1:=cells1 (C19.out.b 1 rfl)
   go_simp
   refine hK.out _ _ ?_ (fun hHeld=>?_)
   ·exact six_of (C19.out.b 0 rfl)
   clear hK K hHeld
   try simp only [Act.put,q0,q1,q2]
   clear q1
   have hHeld:=six_of (C19.out.b 0 rfl)
   refine rT 3 (some 6) ?_
   try simp only [Act.put,q0,q1,q2]
   clear hHeld
   refine rR1 4 (some 7) (fun K hK=>?_)
   obtain⟨G,w21,HG,HWG,hxg,C21⟩:=C19.out.boxE #[.int .i64 0,.int .i64 0,.int .i64 0,.string ⟨#[]⟩,.bool false,.slice none 0 0] 37
   have HR21:=Lib.hid (HR19.out.box readET_mono HG.out (.cells #[.int .i64 0,.int .i64 0,.int .i64 0,.string ⟨#[]⟩,.bool false,.slice none 0 0] 37))
   rw [←HWG.out] at HR21
   have HSZ21:Hid (W.heap.size≤w21.heap.size):=Lib.hid (by have h9:=HSZ19.out;rw [HWG.out,World.size_alloc];omega)
   have HP21:=Lib.hid (SlE.inc HP19.out (pend_box HG.out (.cells #[.int .i64 0,.int .i64 0,.int .i64 0,.string ⟨#[]⟩,.bool false,.slice none 0 0] 37)))
   rw [←HWG.out] at HP21
   go_simp
   rw [←HG.out,←HWG.out]
   refine hK.out _ _ ?_ (fun hHeld=>?_)
   ·exact six_of (C21.out.b 1 rfl)
   clear hK K hHeld
   try simp only [Act.put,q0,q1,q2]
   clear HG HWG C19 HR19 HSZ19 HP19
   refine rR1 5 (some 8) (fun K hK=>?_)
   refine step_push eCells_len (fun _ _ _ hi hx=>⟨readET_mono _ _ _ hi hx.1,SlE.inc hx.2 hi⟩) rfl _ _ 35 rfl i0 (.agg #[.int .i64 0,.int .i64 0,.int .i64 0,.string ⟨#[]⟩,.bool false,.slice none 0 0]) 72 Tryz.underlying35 hi0 hz0 hz1 hz2 rfl (by decide) _ [(.mk 0 0 0 ⟨#[]⟩ false [],.slice none 0 0)] rfl rfl (HR21.out.both (P:=fun U=>SlE U (.slice py AN cy) y.args) HP21.out) (SrcAt.of_blk (f:=eCells) (x:=(.mk 0 0 0 ⟨#[]⟩ false [],.slice none 0 0)) (C21.out.b 0 rfl) rfl) (fun x hx=>by rw [List.mem_singleton.1 hx];exact⟨zeroET,HP21.out⟩) (eCells_one (w:=w21) (fun x hx=>by rw [List.mem_singleton.1 hx];exact zeroET)) (by have:=HN.out;simp only [List.length_cons,List.length_nil];unfold maxLen;omega) (by have:=HN.out;simp only [List.length_cons,List.length_nil];omega) C21.out.le (fun q hq=>(C21.out.lts hq).2.1) ?_
   intro v22 w22 hr hg
   have C22:=Lib.hid (My.push C21.out hg (fun q hq=>⟨(HR21.out.ge hq).1,fun hm=>HR21.out.nin q hm hq⟩))
   have HSZ22:=Lib.hid (Nat.le_trans HSZ21.out hg.size)
   obtain⟨p22,c22,rfl⟩:=own_form hr.own
   obtain⟨m22,hm22⟩:∃q,(tr++ [(.mk 0 0 0 ⟨#[]⟩ false [],.slice none 0 0)]:List ET).length=q:=⟨_,rfl⟩
   rw [hm22] at hr ⊢
   clear hm22
   have HR22:=Lib.hid hr.left
   have HP22:=Lib.hid (hr.right (x:=(.mk 0 0 0 ⟨#[]⟩ false [],.slice none 0 0)) (List.mem_append.2 (.inr (List.mem_cons_self ..))))
   clear hr hg C21 HR21 HSZ21 HP21
   refine hK.out _ _ ?_ (fun hHeld=>?_)
   ·exact six_of (C22.out.b 1 rfl)
   clear hK K hHeld
   try simp only [Act.put,q0,q1,q2]
   obtain⟨hm9,g,hp9,hBg,hgl,hgn,hgc⟩:=HR22.out.last HN.out
   subst hm9 hp9
   clear hBg hgl hgn hgc
   have b1:(0:Int)≤(n:Int):=by omega
   have b2:(n:Int)<(n:Int)+1:=by omega
   have hHeld:=six_of (C22.out.b 1 rfl)
   refine rT 6 (some 9) ?_
   try simp only [Act.put,q0,q1,q2]
   refine rR2 7 none 8 none (fun K hK=>?_) (fun K hK=>?_)
   ·obtain⟨_,g9,hp9,hBg,hgl,hgn,hgc⟩:=HR22.out.last HN.out
    cases hp9
    obtain⟨⟨u0,k0⟩,f0⟩:=hgc 0 (by decide)
    obtain⟨⟨u1,k1⟩,f1⟩:=hgc 1 (by decide)
    obtain⟨⟨u2,k2⟩,f2⟩:=hgc 2 (by decide)
    obtain⟨⟨u3,k3⟩,f3⟩:=hgc 3 (by decide)
    obtain⟨⟨u4,k4⟩,f4⟩:=hgc 4 (by decide)
    obtain⟨⟨u5,k5⟩,f5⟩:=hgc 5 (by decide)
    rw [Nat.add_zero] at k0 f0
    obtain⟨w23,HW⟩:∃q,Hid (q=((((((w22.setCell ⟨g,n*6,none⟩ (.int .i64 y.kind)).setCell ⟨g,n*6+1,none⟩ (.int .i64 y.op)).setCell ⟨g,n*6+2,none⟩ (.int .i64 y.int)).setCell ⟨g,n*6+3,none⟩ (.string y.name)).setCell ⟨g,n*6+4,none⟩ (.bool y.at_)).setCell ⟨g,n*6+5,none⟩ (.slice py AN cy))):=⟨_,Lib.hid rfl⟩
    have HR23:=Lib.hid (HR22.out.put (z:=(.mk 0 0 0 ⟨#[]⟩ false [],.slice none 0 0)) y (.slice py AN cy) ⟨HBY.out,by have h9:=HP22.out;exact h9⟩ HN.out HW.out)
    have hgr:w22.grownBy w23 (some g):=by rw [HW.out];exact set6o_gr w22 g (n*6) _ _ _ _ _ _
    have C23:=Lib.hid (My.push C22.out hgr (fun q hq=>by injection hq with hq;subst hq;exact⟨hBg,fun hm=>hgn _ hm rfl⟩))
    go_simp
    rw [←HW.out]
    refine hK.out _ _ ?_ (fun hHeld=>?_)
    ·exact six_of (C23.out.b 1 rfl)
    clear hK K hHeld
    try simp only [Act.put,q0,q1,q2]
    clear HW hgr C22 HR22 HP22 hBg hgl hgn hgc k0 f0 k1 f1 k2 f2 k3 f3 k4 f4 k5 f5
    refine rR1 8 none (fun K hK=>?_)
    have q2:=cells1 (C23.out.b 2 rfl)
    obtain⟨w24,HW⟩:∃q,Hid (q=w23.setCell ⟨B,0,none⟩ (.slice (some ⟨g,0,none⟩) (n+1) c22)):=⟨_,Lib.hid rfl⟩
    have hgr:w23.grownBy w24 (some B):=by rw [HW.out];exact gr_set w23 B 0 _
    have C24:=Lib.hid ((C23.out.set (W':=w24) 2 rfl hgr (by rw [HW.out];exact heap_set (j:=0) _ (C23.out.b 2 rfl))).nrm (bs':= [(G,#[.int .i64 0,.int .i64 0,.int .i64 0,.string ⟨#[]⟩,.bool false,.slice none 0 0],37),(E,#[.int .i64 x.kind,.int .i64 x.op,.int .i64 x.int,.string x.name,.bool x.at_,.slice pa AX ca],37),(B,#[.slice (some ⟨g,0,none⟩) (n+1) c22],35)]) rfl)
    have HR24:=Lib.hid (HR23.out.keep readET_mono hgr (fun q e=>by injection e with e;subst e;exact .inr (by simp)) (fun q e h9=>HR23.out.nin B (by simp) (by rw [h9];exact e.symm)))
    go_simp
    rw [←HW.out]
    refine hK.out _ _ ?_ (fun hHeld=>?_)
    ·exact six_of (C24.out.b 1 rfl)
    clear hK K hHeld
    try simp only [Act.put,q0,q1,q2]
    clear HW hgr C23 HR23  q2
    refine wpAnyH_done (by kernel_rfl) ?_ _
    go_wp2_with fail
    go_end0
    exact⟨rfl,_,C24.out.tl.tl,_,HR24.out.sub readET_mono (fun q hq=>List.mem_cons_of_mem _ (List.mem_cons_of_mem _ hq))⟩
   ·have q2:=cells1 (C22.out.b 2 rfl)
    obtain⟨w25,HW⟩:∃q,Hid (q=w22.setCell ⟨B,0,none⟩ (.slice (some ⟨g,0,none⟩) (n+1) c22)):=⟨_,Lib.hid rfl⟩
    have hgr:w22.grownBy w25 (some B):=by rw [HW.out];exact gr_set w22 B 0 _
    have C25:=Lib.hid ((C22.out.set (W':=w25) 2 rfl hgr (by rw [HW.out];exact heap_set (j:=0) _ (C22.out.b 2 rfl))).nrm (bs':= [(G,#[.int .i64 0,.int .i64 0,.int .i64 0,.string ⟨#[]⟩,.bool false,.slice none 0 0],37),(E,#[.int .i64 x.kind,.int .i64 x.op,.int .i64 x.int,.string x.name,.bool x.at_,.slice pa AX ca],37),(B,#[.slice (some ⟨g,0,none⟩) (n+1) c22],35)]) rfl)
    have HR25:=Lib.hid (HR22.out.keep readET_mono hgr (fun q e=>by injection e with e;subst e;exact .inr (by simp)) (fun q e h9=>HR22.out.nin B (by simp) (by rw [h9];exact e.symm)))
    have HP25:=Lib.hid (SlE.inc HP22.out (up_step (B':=w.heap.size) (l':= [G,E,B]++ownL (.slice (some ⟨g,0,none⟩) (n+1) c22)) hgr (fun q e=>by injection e with e;subst e;exact .inr (by simp)) (fun _ _ h=>h)))
    go_simp
    rw [←HW.out]
    refine hK.out _ _ ?_ (fun hHeld=>?_)
    ·exact six_of (C25.out.b 1 rfl)
    clear hK K hHeld
    try simp only [Act.put,q0,q1,q2]
    clear HW hgr C22 HR22 HP22 q2
    refine rR1 7 none (fun K hK=>?_)
    obtain⟨_,g9,hp9,hBg,hgl,hgn,hgc⟩:=HR25.out.last HN.out
    cases hp9
    obtain⟨⟨u0,k0⟩,f0⟩:=hgc 0 (by decide)
    obtain⟨⟨u1,k1⟩,f1⟩:=hgc 1 (by decide)
    obtain⟨⟨u2,k2⟩,f2⟩:=hgc 2 (by decide)
    obtain⟨⟨u3,k3⟩,f3⟩:=hgc 3 (by decide)
    obtain⟨⟨u4,k4⟩,f4⟩:=hgc 4 (by decide)
    obtain⟨⟨u5,k5⟩,f5⟩:=hgc 5 (by decide)
    rw [Nat.add_zero] at k0 f0
    obtain⟨w26,HW⟩:∃q,Hid (q=((((((w25.setCell ⟨g,n*6,none⟩ (.int .i64 y.kind)).setCell ⟨g,n*6+1,none⟩ (.int .i64 y.op)).setCell ⟨g,n*6+2,none⟩ (.int .i64 y.int)).setCell ⟨g,n*6+3,none⟩ (.string y.name)).setCell ⟨g,n*6+4,none⟩ (.bool y.at_)).setCell ⟨g,n*6+5,none⟩ (.slice py AN cy))):=⟨_,Lib.hid rfl⟩
    have HR26:=Lib.hid (HR25.out.put (z:=(.mk 0 0 0 ⟨#[]⟩ false [],.slice none 0 0)) y (.slice py AN cy) ⟨HBY.out,by have h9:=HP25.out;exact h9⟩ HN.out HW.out)
    have hgr:w25.grownBy w26 (some g):=by rw [HW.out];exact set6o_gr w25 g (n*6) _ _ _ _ _ _
    have C26:=Lib.hid (My.push C25.out hgr (fun q hq=>by injection hq with hq;subst hq;exact⟨hBg,fun hm=>hgn _ hm rfl⟩))
    go_simp
    rw [←HW.out]
    refine hK.out _ _ ?_ (fun hHeld=>?_)
    ·exact six_of (C26.out.b 1 rfl)
    clear hK K hHeld
    try simp only [Act.put,q0,q1,q2]
    clear HW hgr C25 HR25 HP25 hBg hgl hgn hgc k0 f0 k1 f1 k2 f2 k3 f3 k4 f4 k5 f5
    refine wpAnyH_done (by kernel_rfl) ?_ _
    go_wp2_with fail
    go_end0
    exact⟨rfl,_,C26.out.tl.tl,_,HR26.out.sub readET_mono (fun q hq=>List.mem_cons_of_mem _ (List.mem_cons_of_mem _ hq))⟩
  ·obtain⟨G,w27,HG,HWG,hxg,C27⟩:=C19.out.boxE #[.int .i64 0,.int .i64 0,.int .i64 0,.string ⟨#[]⟩,.bool false,.slice none 0 0] 37
   have HR27:=Lib.hid (HR19.out.box readET_mono HG.out (.cells #[.int .i64 0,.int .i64 0,.int .i64 0,.string ⟨#[]⟩,.bool false,.slice none 0 0] 37))
   rw [←HWG.out] at HR27
   have HSZ27:Hid (W.heap.size≤w27.heap.size):=Lib.hid (by have h9:=HSZ19.out;rw [HWG.out,World.size_alloc];omega)
   have HP27:=Lib.hid (SlE.inc HP19.out (pend_box HG.out (.cells #[.int .i64 0,.int .i64 0,.int .i64 0,.string ⟨#[]⟩,.bool false,.slice none 0 0] 37)))
   rw [←HWG.out] at HP27
   go_simp
   rw [←HG.out,←HWG.out]
   refine hK.out _ _ ?_ (fun hHeld=>?_)
   ·exact six_of (C27.out.b 1 rfl)
   clear hK K hHeld
   try simp only [Act.put,q0,q1,q2]
   clear HG HWG C19 HR19 HSZ19 HP19
   refine rR1 0 (some 3) (fun K hK=>?_)
   have q2:=cells1 (C27.out.b 2 rfl)
   go_simp
   refine hK.out _ _ ?_ (fun hHeld=>?_)
   ·exact six_of (C27.out.b 1 rfl)
   clear hK K hHeld
   try simp only [Act.put,q0,q1,q2]
   clear q2
   have hHeld:=six_of (C27.out.b 1 rfl)
   refine rT 3 (some 6) ?_
   try simp only [Act.put,q0,q1,q2]
   clear hHeld
   refine rR1 5 (some 8) (fun K hK=>?_)
   refine step_push eCells_len (fun _ _ _ hi hx=>⟨readET_mono _ _ _ hi hx.1,SlE.inc hx.2 hi⟩) rfl _ _ 35 rfl i0 (.agg #[.int .i64 0,.int .i64 0,.int .i64 0,.string ⟨#[]⟩,.bool false,.slice none 0 0]) 72 Tryz.underlying35 hi0 hz0 hz1 hz2 rfl (by decide) _ [(.mk 0 0 0 ⟨#[]⟩ false [],.slice none 0 0)] rfl rfl (HR27.out.both (P:=fun U=>SlE U (.slice py AN cy) y.args) HP27.out) (SrcAt.of_blk (f:=eCells) (x:=(.mk 0 0 0 ⟨#[]⟩ false [],.slice none 0 0)) (C27.out.b 0 rfl) rfl) (fun x hx=>by rw [List.mem_singleton.1 hx];exact⟨zeroET,HP27.out⟩) (eCells_one (w:=w27) (fun x hx=>by rw [List.mem_singleton.1 hx];exact zeroET)) (by have:=HN.out;simp only [List.length_cons,List.length_nil];unfold maxLen;omega) (by have:=HN.out;simp only [List.length_cons,List.length_nil];omega) C27.out.le (fun q hq=>(C27.out.lts hq).2.1) ?_
   intro v28 w28 hr hg
   have C28:=Lib.hid (My.push C27.out hg (fun q hq=>⟨(HR27.out.ge hq).1,fun hm=>HR27.out.nin q hm hq⟩))
   have HSZ28:=Lib.hid (Nat.le_trans HSZ27.out hg.size)
   obtain⟨p28,c28,rfl⟩:=own_form hr.own
   obtain⟨m28,hm28⟩:∃q,(tr++ [(.mk 0 0 0 ⟨#[]⟩ false [],.slice none 0 0)]:List ET).length=q:=⟨_,rfl⟩
   rw [hm28] at hr ⊢
   clear hm28
   have HR28:=Lib.hid hr.left
   have HP28:=Lib.hid (hr.right (x:=(.mk 0 0 0 ⟨#[]⟩ false [],.slice none 0 0)) (List.mem_append.2 (.inr (List.mem_cons_self ..))))
   clear hr hg C27 HR27 HSZ27 HP27
   refine hK.out _ _ ?_ (fun hHeld=>?_)
   ·exact six_of (C28.out.b 1 rfl)
   clear hK K hHeld
   try simp only [Act.put,q0,q1,q2]
   obtain⟨hm9,g,hp9,hBg,hgl,hgn,hgc⟩:=HR28.out.last HN.out
   subst hm9 hp9
   clear hBg hgl hgn hgc
   have b1:(0:Int)≤(n:Int):=by omega
   have b2:(n:Int)<(n:Int)+1:=by omega
   have hHeld:=six_of (C28.out.b 1 rfl)
   refine rT 6 (some 9) ?_
   try simp only [Act.put,q0,q1,q2]
   refine rR2 7 none 8 none (fun K hK=>?_) (fun K hK=>?_)
   ·obtain⟨_,g9,hp9,hBg,hgl,hgn,hgc⟩:=HR28.out.last HN.out
    cases hp9
    obtain⟨⟨u0,k0⟩,f0⟩:=hgc 0 (by decide)
    obtain⟨⟨u1,k1⟩,f1⟩:=hgc 1 (by decide)
    obtain⟨⟨u2,k2⟩,f2⟩:=hgc 2 (by decide)
    obtain⟨⟨u3,k3⟩,f3⟩:=hgc 3 (by decide)
    obtain⟨⟨u4,k4⟩,f4⟩:=hgc 4 (by decide)
    obtain⟨⟨u5,k5⟩,f5⟩:=hgc 5 (by decide)
    rw [Nat.add_zero] at k0 f0
    obtain⟨w29,HW⟩:∃q,Hid (q=((((((w28.setCell ⟨g,n*6,none⟩ (.int .i64 y.kind)).setCell ⟨g,n*6+1,none⟩ (.int .i64 y.op)).setCell ⟨g,n*6+2,none⟩ (.int .i64 y.int)).setCell ⟨g,n*6+3,none⟩ (.string y.name)).setCell ⟨g,n*6+4,none⟩ (.bool y.at_)).setCell ⟨g,n*6+5,none⟩ (.slice py AN cy))):=⟨_,Lib.hid rfl⟩
    have HR29:=Lib.hid (HR28.out.put (z:=(.mk 0 0 0 ⟨#[]⟩ false [],.slice none 0 0)) y (.slice py AN cy) ⟨HBY.out,by have h9:=HP28.out;exact h9⟩ HN.out HW.out)
    have hgr:w28.grownBy w29 (some g):=by rw [HW.out];exact set6o_gr w28 g (n*6) _ _ _ _ _ _
    have C29:=Lib.hid (My.push C28.out hgr (fun q hq=>by injection hq with hq;subst hq;exact⟨hBg,fun hm=>hgn _ hm rfl⟩))
    go_simp
    rw [←HW.out]
    refine hK.out _ _ ?_ (fun hHeld=>?_)
    ·exact six_of (C29.out.b 1 rfl)
    clear hK K hHeld
    try simp only [Act.put,q0,q1,q2]
    clear HW hgr C28 HR28 HP28 hBg hgl hgn hgc k0 f0 k1 f1 k2 f2 k3 f3 k4 f4 k5 f5
    refine rR1 8 none (fun K hK=>?_)
    have q2:=cells1 (C29.out.b 2 rfl)
    obtain⟨w30,HW⟩:∃q,Hid (q=w29.setCell ⟨B,0,none⟩ (.slice (some ⟨g,0,none⟩) (n+1) c28)):=⟨_,Lib.hid rfl⟩
    have hgr:w29.grownBy w30 (some B):=by rw [HW.out];exact gr_set w29 B 0 _
    have C30:=Lib.hid ((C29.out.set (W':=w30) 2 rfl hgr (by rw [HW.out];exact heap_set (j:=0) _ (C29.out.b 2 rfl))).nrm (bs':= [(G,#[.int .i64 0,.int .i64 0,.int .i64 0,.string ⟨#[]⟩,.bool false,.slice none 0 0],37),(E,#[.int .i64 x.kind,.int .i64 x.op,.int .i64 x.int,.string x.name,.bool x.at_,.slice pa AX ca],37),(B,#[.slice (some ⟨g,0,none⟩) (n+1) c28],35)]) rfl)
    have HR30:=Lib.hid (HR29.out.keep readET_mono hgr (fun q e=>by injection e with e;subst e;exact .inr (by simp)) (fun q e h9=>HR29.out.nin B (by simp) (by rw [h9];exact e.symm)))
    go_simp
    rw [←HW.out]
    refine hK.out _ _ ?_ (fun hHeld=>?_)
    ·exact six_of (C30.out.b 1 rfl)
    clear hK K hHeld
    try simp only [Act.put,q0,q1,q2]
    clear HW hgr C29 HR29  q2
    refine wpAnyH_done (by kernel_rfl) ?_ _
    go_wp2_with fail
    go_end0
    exact⟨rfl,_,C30.out.tl.tl,_,HR30.out.sub readET_mono (fun q hq=>List.mem_cons_of_mem _ (List.mem_cons_of_mem _ hq))⟩
   ·have q2:=cells1 (C28.out.b 2 rfl)
    obtain⟨w31,HW⟩:∃q,Hid (q=w28.setCell ⟨B,0,none⟩ (.slice (some ⟨g,0,none⟩) (n+1) c28)):=⟨_,Lib.hid rfl⟩
    have hgr:w28.grownBy w31 (some B):=by rw [HW.out];exact gr_set w28 B 0 _
    have C31:=Lib.hid ((C28.out.set (W':=w31) 2 rfl hgr (by rw [HW.out];exact heap_set (j:=0) _ (C28.out.b 2 rfl))).nrm (bs':= [(G,#[.int .i64 0,.int .i64 0,.int .i64 0,.string ⟨#[]⟩,.bool false,.slice none 0 0],37),(E,#[.int .i64 x.kind,.int .i64 x.op,.int .i64 x.int,.string x.name,.bool x.at_,.slice pa AX ca],37),(B,#[.slice (some ⟨g,0,none⟩) (n+1) c28],35)]) rfl)
    have HR31:=Lib.hid (HR28.out.keep readET_mono hgr (fun q e=>by injection e with e;subst e;exact .inr (by simp)) (fun q e h9=>HR28.out.nin B (by simp) (by rw [h9];exact e.symm)))
    have HP31:=Lib.hid (SlE.inc HP28.out (up_step (B':=w.heap.size) (l':= [G,E,B]++ownL (.slice (some ⟨g,0,none⟩) (n+1) c28)) hgr (fun q e=>by injection e with e;subst e;exact .inr (by simp)) (fun _ _ h=>h)))
    go_simp
    rw [←HW.out]
    refine hK.out _ _ ?_ (fun hHeld=>?_)
    ·exact six_of (C31.out.b 1 rfl)
    clear hK K hHeld
    try simp only [Act.put,q0,q1,q2]
    clear HW hgr C28 HR28 HP28 q2
    refine rR1 7 none (fun K hK=>?_)
    obtain⟨_,g9,hp9,hBg,hgl,hgn,hgc⟩:=HR31.out.last HN.out
    cases hp9
    obtain⟨⟨u0,k0⟩,f0⟩:=hgc 0 (by decide)
    obtain⟨⟨u1,k1⟩,f1⟩:=hgc 1 (by decide)
    obtain⟨⟨u2,k2⟩,f2⟩:=hgc 2 (by decide)
    obtain⟨⟨u3,k3⟩,f3⟩:=hgc 3 (by decide)
    obtain⟨⟨u4,k4⟩,f4⟩:=hgc 4 (by decide)
    obtain⟨⟨u5,k5⟩,f5⟩:=hgc 5 (by decide)
    rw [Nat.add_zero] at k0 f0
    obtain⟨w32,HW⟩:∃q,Hid (q=((((((w31.setCell ⟨g,n*6,none⟩ (.int .i64 y.kind)).setCell ⟨g,n*6+1,none⟩ (.int .i64 y.op)).setCell ⟨g,n*6+2,none⟩ (.int .i64 y.int)).setCell ⟨g,n*6+3,none⟩ (.string y.name)).setCell ⟨g,n*6+4,none⟩ (.bool y.at_)).setCell ⟨g,n*6+5,none⟩ (.slice py AN cy))):=⟨_,Lib.hid rfl⟩
    have HR32:=Lib.hid (HR31.out.put (z:=(.mk 0 0 0 ⟨#[]⟩ false [],.slice none 0 0)) y (.slice py AN cy) ⟨HBY.out,by have h9:=HP31.out;exact h9⟩ HN.out HW.out)
    have hgr:w31.grownBy w32 (some g):=by rw [HW.out];exact set6o_gr w31 g (n*6) _ _ _ _ _ _
    have C32:=Lib.hid (My.push C31.out hgr (fun q hq=>by injection hq with hq;subst hq;exact⟨hBg,fun hm=>hgn _ hm rfl⟩))
    go_simp
    rw [←HW.out]
    refine hK.out _ _ ?_ (fun hHeld=>?_)
    ·exact six_of (C32.out.b 1 rfl)
    clear hK K hHeld
    try simp only [Act.put,q0,q1,q2]
    clear HW hgr C31 HR31 HP31 hBg hgl hgn hgc k0 f0 k1 f1 k2 f2 k3 f3 k4 f4 k5 f5
    refine wpAnyH_done (by kernel_rfl) ?_ _
    go_wp2_with fail
    go_end0
    exact⟨rfl,_,C32.out.tl.tl,_,HR32.out.sub readET_mono (fun q hq=>List.mem_cons_of_mem _ (List.mem_cons_of_mem _ hq))⟩
 ·obtain⟨G,w33,HG,HWG,hxg,C33⟩:=C2.out.boxE #[.int .i64 0,.int .i64 0,.int .i64 0,.string ⟨#[]⟩,.bool false,.slice none 0 0] 37
  have HR33:=Lib.hid (HR2.out.box readET_mono HG.out (.cells #[.int .i64 0,.int .i64 0,.int .i64 0,.string ⟨#[]⟩,.bool false,.slice none 0 0] 37))
  rw [←HWG.out] at HR33
  have HSZ33:Hid (W.heap.size≤w33.heap.size):=Lib.hid (by have h9:=HSZ2.out;rw [HWG.out,World.size_alloc];omega)
  go_simp
  rw [←HG.out,←HWG.out]
  refine hK.out _ _ ?_ (fun hHeld=>?_)
  ·exact six_of (C33.out.b 1 rfl)
  clear hK K hHeld
  try simp only [Act.put,q0,q1,q2]
  clear HG HWG C2 HR2 HSZ2
  refine rR2 0 (some 3) 2 (some 5) (fun K hK=>?_) (fun K hK=>?_)
  ·have q2:=cells1 (C33.out.b 2 rfl)
   go_simp
   refine hK.out _ _ ?_ (fun hHeld=>?_)
   ·exact six_of (C33.out.b 1 rfl)
   clear hK K hHeld
   try simp only [Act.put,q0,q1,q2]
   clear q2
   have hHeld:=six_of (C33.out.b 1 rfl)
   refine rT 3 (some 6) ?_
   try simp only [Act.put,q0,q1,q2]
   clear hHeld
   refine rR1 2 (some 5) (fun K hK=>?_)
   go_simp
   refine(KF.out _ w33 C33.out HSZ33.out).mono ?_
   rintro e w34 ⟨a',rfl,hby,hsy,hb⟩
   obtain⟨py,cy,rfl,_⟩:=hsy.form
   obtain⟨AN,hAN⟩:∃q,y.args.length=q:=⟨_,rfl⟩
   rw [hAN] at hsy ⊢
   have HAN:=Lib.hid hAN
   have HBY:=Lib.hid hby
   have HR34:=Lib.hid (HR33.out.below readET_mono hb)
   have HSZ34:=Lib.hid (Nat.le_trans HSZ33.out hb.size)
   have HP34:=Lib.hid (SlE.inc hsy (HR33.out.pend C33.out.le (fun q hq=>(C33.out.lts hq).2.1)))
   have C34:=Lib.hid (C33.out.below hb)
   clear hb hsy hby hAN C33 HR33 HSZ33
   unfold exprV
   go_wp2_with fail
   refine hK.out _ _ ?_ (fun hHeld=>?_)
   ·exact six_of (C34.out.b 1 rfl)
   clear hK K hHeld
   try simp only [Act.put,q0,q1,q2]
   refine rR1 5 (some 8) (fun K hK=>?_)
   refine step_push eCells_len (fun _ _ _ hi hx=>⟨readET_mono _ _ _ hi hx.1,SlE.inc hx.2 hi⟩) rfl _ _ 35 rfl i0 (.agg #[.int .i64 0,.int .i64 0,.int .i64 0,.string ⟨#[]⟩,.bool false,.slice none 0 0]) 72 Tryz.underlying35 hi0 hz0 hz1 hz2 rfl (by decide) _ [(.mk 0 0 0 ⟨#[]⟩ false [],.slice none 0 0)] rfl rfl (HR34.out.both (P:=fun U=>SlE U (.slice py AN cy) y.args) HP34.out) (SrcAt.of_blk (f:=eCells) (x:=(.mk 0 0 0 ⟨#[]⟩ false [],.slice none 0 0)) (C34.out.b 0 rfl) rfl) (fun x hx=>by rw [List.mem_singleton.1 hx];exact⟨zeroET,HP34.out⟩) (eCells_one (w:=w34) (fun x hx=>by rw [List.mem_singleton.1 hx];exact zeroET)) (by have:=HN.out;simp only [List.length_cons,List.length_nil];unfold maxLen;omega) (by have:=HN.out;simp only [List.length_cons,List.length_nil];omega) C34.out.le (fun q hq=>(C34.out.lts hq).2.1) ?_
   intro v36 w36 hr hg
   have C36:=Lib.hid (My.push C34.out hg (fun q hq=>⟨(HR34.out.ge hq).1,fun hm=>HR34.out.nin q hm hq⟩))
   have HSZ36:=Lib.hid (Nat.le_trans HSZ34.out hg.size)
   obtain⟨p36,c36,rfl⟩:=own_form hr.own
   obtain⟨m36,hm36⟩:∃q,(tr++ [(.mk 0 0 0 ⟨#[]⟩ false [],.slice none 0 0)]:List ET).length=q:=⟨_,rfl⟩
   rw [hm36] at hr ⊢
   clear hm36
   have HR36:=Lib.hid hr.left
   have HP36:=Lib.hid (hr.right (x:=(.mk 0 0 0 ⟨#[]⟩ false [],.slice none 0 0)) (List.mem_append.2 (.inr (List.mem_cons_self ..))))
   clear hr hg C34 HR34 HSZ34 HP34
   refine hK.out _ _ ?_ (fun hHeld=>?_)
   ·exact six_of (C36.out.b 1 rfl)
   clear hK K hHeld
   try simp only [Act.put,q0,q1,q2]
   obtain⟨hm9,g,hp9,hBg,hgl,hgn,hgc⟩:=HR36.out.last HN.out
   subst hm9 hp9
   clear hBg hgl hgn hgc
   have b1:(0:Int)≤(n:Int):=by omega
   have b2:(n:Int)<(n:Int)+1:=by omega
   have hHeld:=six_of (C36.out.b 1 rfl)
   refine rT 6 (some 9) ?_
   try simp only [Act.put,q0,q1,q2]
   refine rR2 7 none 8 none (fun K hK=>?_) (fun K hK=>?_)
   ·obtain⟨_,g9,hp9,hBg,hgl,hgn,hgc⟩:=HR36.out.last HN.out
    cases hp9
    obtain⟨⟨u0,k0⟩,f0⟩:=hgc 0 (by decide)
    obtain⟨⟨u1,k1⟩,f1⟩:=hgc 1 (by decide)
    obtain⟨⟨u2,k2⟩,f2⟩:=hgc 2 (by decide)
    obtain⟨⟨u3,k3⟩,f3⟩:=hgc 3 (by decide)
    obtain⟨⟨u4,k4⟩,f4⟩:=hgc 4 (by decide)
    obtain⟨⟨u5,k5⟩,f5⟩:=hgc 5 (by decide)
    rw [Nat.add_zero] at k0 f0
    obtain⟨w37,HW⟩:∃q,Hid (q=((((((w36.setCell ⟨g,n*6,none⟩ (.int .i64 y.kind)).setCell ⟨g,n*6+1,none⟩ (.int .i64 y.op)).setCell ⟨g,n*6+2,none⟩ (.int .i64 y.int)).setCell ⟨g,n*6+3,none⟩ (.string y.name)).setCell ⟨g,n*6+4,none⟩ (.bool y.at_)).setCell ⟨g,n*6+5,none⟩ (.slice py AN cy))):=⟨_,Lib.hid rfl⟩
    have HR37:=Lib.hid (HR36.out.put (z:=(.mk 0 0 0 ⟨#[]⟩ false [],.slice none 0 0)) y (.slice py AN cy) ⟨HBY.out,by have h9:=HP36.out;exact h9⟩ HN.out HW.out)
    have hgr:w36.grownBy w37 (some g):=by rw [HW.out];exact set6o_gr w36 g (n*6) _ _ _ _ _ _
    have C37:=Lib.hid (My.push C36.out hgr (fun q hq=>by injection hq with hq;subst hq;exact⟨hBg,fun hm=>hgn _ hm rfl⟩))
    go_simp
    rw [←HW.out]
    refine hK.out _ _ ?_ (fun hHeld=>?_)
    ·exact six_of (C37.out.b 1 rfl)
    clear hK K hHeld
    try simp only [Act.put,q0,q1,q2]
    clear HW hgr C36 HR36 HP36 hBg hgl hgn hgc k0 f0 k1 f1 k2 f2 k3 f3 k4 f4 k5 f5
    refine rR1 8 none (fun K hK=>?_)
    have q2:=cells1 (C37.out.b 2 rfl)
    obtain⟨w38,HW⟩:∃q,Hid (q=w37.setCell ⟨B,0,none⟩ (.slice (some ⟨g,0,none⟩) (n+1) c36)):=⟨_,Lib.hid rfl⟩
    have hgr:w37.grownBy w38 (some B):=by rw [HW.out];exact gr_set w37 B 0 _
    have C38:=Lib.hid ((C37.out.set (W':=w38) 2 rfl hgr (by rw [HW.out];exact heap_set (j:=0) _ (C37.out.b 2 rfl))).nrm (bs':= [(G,#[.int .i64 0,.int .i64 0,.int .i64 0,.string ⟨#[]⟩,.bool false,.slice none 0 0],37),(E,#[.int .i64 x.kind,.int .i64 x.op,.int .i64 x.int,.string x.name,.bool x.at_,.slice pa AX ca],37),(B,#[.slice (some ⟨g,0,none⟩) (n+1) c36],35)]) rfl)
    have HR38:=Lib.hid (HR37.out.keep readET_mono hgr (fun q e=>by injection e with e;subst e;exact .inr (by simp)) (fun q e h9=>HR37.out.nin B (by simp) (by rw [h9];exact e.symm)))
    go_simp
    rw [←HW.out]
    refine hK.out _ _ ?_ (fun hHeld=>?_)
    ·exact six_of (C38.out.b 1 rfl)
    clear hK K hHeld
    try simp only [Act.put,q0,q1,q2]
    clear HW hgr C37 HR37  q2
    refine wpAnyH_done (by kernel_rfl) ?_ _
    go_wp2_with fail
    go_end0
    exact⟨rfl,_,C38.out.tl.tl,_,HR38.out.sub readET_mono (fun q hq=>List.mem_cons_of_mem _ (List.mem_cons_of_mem _ hq))⟩
   ·have q2:=cells1 (C36.out.b 2 rfl)
    obtain⟨w39,HW⟩:∃q,Hid (q=w36.setCell ⟨B,0,none⟩ (.slice (some ⟨g,0,none⟩) (n+1) c36)):=⟨_,Lib.hid rfl⟩
    have hgr:w36.grownBy w39 (some B):=by rw [HW.out];exact gr_set w36 B 0 _
    have C39:=Lib.hid ((C36.out.set (W':=w39) 2 rfl hgr (by rw [HW.out];exact heap_set (j:=0) _ (C36.out.b 2 rfl))).nrm (bs':= [(G,#[.int .i64 0,.int .i64 0,.int .i64 0,.string ⟨#[]⟩,.bool false,.slice none 0 0],37),(E,#[.int .i64 x.kind,.int .i64 x.op,.int .i64 x.int,.string x.name,.bool x.at_,.slice pa AX ca],37),(B,#[.slice (some ⟨g,0,none⟩) (n+1) c36],35)]) rfl)
    have HR39:=Lib.hid (HR36.out.keep readET_mono hgr (fun q e=>by injection e with e;subst e;exact .inr (by simp)) (fun q e h9=>HR36.out.nin B (by simp) (by rw [h9];exact e.symm)))
    have HP39:=Lib.hid (SlE.inc HP36.out (up_step (B':=w.heap.size) (l':= [G,E,B]++ownL (.slice (some ⟨g,0,none⟩) (n+1) c36)) hgr (fun q e=>by injection e with e;subst e;exact .inr (by simp)) (fun _ _ h=>h)))
    go_simp
    rw [←HW.out]
    refine hK.out _ _ ?_ (fun hHeld=>?_)
    ·exact six_of (C39.out.b 1 rfl)
    clear hK K hHeld
    try simp only [Act.put,q0,q1,q2]
    clear HW hgr C36 HR36 HP36 q2
    refine rR1 7 none (fun K hK=>?_)
    obtain⟨_,g9,hp9,hBg,hgl,hgn,hgc⟩:=HR39.out.last HN.out
    cases hp9
    obtain⟨⟨u0,k0⟩,f0⟩:=hgc 0 (by decide)
    obtain⟨⟨u1,k1⟩,f1⟩:=hgc 1 (by decide)
    obtain⟨⟨u2,k2⟩,f2⟩:=hgc 2 (by decide)
    obtain⟨⟨u3,k3⟩,f3⟩:=hgc 3 (by decide)
    obtain⟨⟨u4,k4⟩,f4⟩:=hgc 4 (by decide)
    obtain⟨⟨u5,k5⟩,f5⟩:=hgc 5 (by decide)
    rw [Nat.add_zero] at k0 f0
    obtain⟨w40,HW⟩:∃q,Hid (q=((((((w39.setCell ⟨g,n*6,none⟩ (.int .i64 y.kind)).setCell ⟨g,n*6+1,none⟩ (.int .i64 y.op)).setCell ⟨g,n*6+2,none⟩ (.int .i64 y.int)).setCell ⟨g,n*6+3,none⟩ (.string y.name)).setCell ⟨g,n*6+4,none⟩ (.bool y.at_)).setCell ⟨g,n*6+5,none⟩ (.slice py AN cy))):=⟨_,Lib.hid rfl⟩
    have HR40:=Lib.hid (HR39.out.put (z:=(.mk 0 0 0 ⟨#[]⟩ false [],.slice none 0 0)) y (.slice py AN cy) ⟨HBY.out,by have h9:=HP39.out;exact h9⟩ HN.out HW.out)
    have hgr:w39.grownBy w40 (some g):=by rw [HW.out];exact set6o_gr w39 g (n*6) _ _ _ _ _ _
    have C40:=Lib.hid (My.push C39.out hgr (fun q hq=>by injection hq with hq;subst hq;exact⟨hBg,fun hm=>hgn _ hm rfl⟩))
    go_simp
    rw [←HW.out]
    refine hK.out _ _ ?_ (fun hHeld=>?_)
    ·exact six_of (C40.out.b 1 rfl)
    clear hK K hHeld
    try simp only [Act.put,q0,q1,q2]
    clear HW hgr C39 HR39 HP39 hBg hgl hgn hgc k0 f0 k1 f1 k2 f2 k3 f3 k4 f4 k5 f5
    refine wpAnyH_done (by kernel_rfl) ?_ _
    go_wp2_with fail
    go_end0
    exact⟨rfl,_,C40.out.tl.tl,_,HR40.out.sub readET_mono (fun q hq=>List.mem_cons_of_mem _ (List.mem_cons_of_mem _ hq))⟩
  ·go_simp
   refine(KF.out _ w33 C33.out HSZ33.out).mono ?_
   rintro e w41 ⟨a',rfl,hby,hsy,hb⟩
   obtain⟨py,cy,rfl,_⟩:=hsy.form
   obtain⟨AN,hAN⟩:∃q,y.args.length=q:=⟨_,rfl⟩
   rw [hAN] at hsy ⊢
   have HAN:=Lib.hid hAN
   have HBY:=Lib.hid hby
   have HR41:=Lib.hid (HR33.out.below readET_mono hb)
   have HSZ41:=Lib.hid (Nat.le_trans HSZ33.out hb.size)
   have HP41:=Lib.hid (SlE.inc hsy (HR33.out.pend C33.out.le (fun q hq=>(C33.out.lts hq).2.1)))
   have C41:=Lib.hid (C33.out.below hb)
   clear hb hsy hby hAN C33 HR33 HSZ33
   unfold exprV
   go_wp2_with fail
   refine hK.out _ _ ?_ (fun hHeld=>?_)
   ·exact six_of (C41.out.b 1 rfl)
   clear hK K hHeld
   try simp only [Act.put,q0,q1,q2]
   refine rR1 0 (some 3) (fun K hK=>?_)
   have q2:=cells1 (C41.out.b 2 rfl)
   go_simp
   refine hK.out _ _ ?_ (fun hHeld=>?_)
   ·exact six_of (C41.out.b 1 rfl)
   clear hK K hHeld
   try simp only [Act.put,q0,q1,q2]
   clear q2
   have hHeld:=six_of (C41.out.b 1 rfl)
   refine rT 3 (some 6) ?_
   try simp only [Act.put,q0,q1,q2]
   clear hHeld
   refine rR1 5 (some 8) (fun K hK=>?_)
   refine step_push eCells_len (fun _ _ _ hi hx=>⟨readET_mono _ _ _ hi hx.1,SlE.inc hx.2 hi⟩) rfl _ _ 35 rfl i0 (.agg #[.int .i64 0,.int .i64 0,.int .i64 0,.string ⟨#[]⟩,.bool false,.slice none 0 0]) 72 Tryz.underlying35 hi0 hz0 hz1 hz2 rfl (by decide) _ [(.mk 0 0 0 ⟨#[]⟩ false [],.slice none 0 0)] rfl rfl (HR41.out.both (P:=fun U=>SlE U (.slice py AN cy) y.args) HP41.out) (SrcAt.of_blk (f:=eCells) (x:=(.mk 0 0 0 ⟨#[]⟩ false [],.slice none 0 0)) (C41.out.b 0 rfl) rfl) (fun x hx=>by rw [List.mem_singleton.1 hx];exact⟨zeroET,HP41.out⟩) (eCells_one (w:=w41) (fun x hx=>by rw [List.mem_singleton.1 hx];exact zeroET)) (by have:=HN.out;simp only [List.length_cons,List.length_nil];unfold maxLen;omega) (by have:=HN.out;simp only [List.length_cons,List.length_nil];omega) C41.out.le (fun q hq=>(C41.out.lts hq).2.1) ?_
   intro v43 w43 hr hg
   have C43:=Lib.hid (My.push C41.out hg (fun q hq=>⟨(HR41.out.ge hq).1,fun hm=>HR41.out.nin q hm hq⟩))
   have HSZ43:=Lib.hid (Nat.le_trans HSZ41.out hg.size)
   obtain⟨p43,c43,rfl⟩:=own_form hr.own
   obtain⟨m43,hm43⟩:∃q,(tr++ [(.mk 0 0 0 ⟨#[]⟩ false [],.slice none 0 0)]:List ET).length=q:=⟨_,rfl⟩
   rw [hm43] at hr ⊢
   clear hm43
   have HR43:=Lib.hid hr.left
   have HP43:=Lib.hid (hr.right (x:=(.mk 0 0 0 ⟨#[]⟩ false [],.slice none 0 0)) (List.mem_append.2 (.inr (List.mem_cons_self ..))))
   clear hr hg C41 HR41 HSZ41 HP41
   refine hK.out _ _ ?_ (fun hHeld=>?_)
   ·exact six_of (C43.out.b 1 rfl)
   clear hK K hHeld
   try simp only [Act.put,q0,q1,q2]
   obtain⟨hm9,g,hp9,hBg,hgl,hgn,hgc⟩:=HR43.out.last HN.out
   subst hm9 hp9
   clear hBg hgl hgn hgc
   have b1:(0:Int)≤(n:Int):=by omega
   have b2:(n:Int)<(n:Int)+1:=by omega
   have hHeld:=six_of (C43.out.b 1 rfl)
   refine rT 6 (some 9) ?_
   try simp only [Act.put,q0,q1,q2]
   refine rR2 7 none 8 none (fun K hK=>?_) (fun K hK=>?_)
   ·obtain⟨_,g9,hp9,hBg,hgl,hgn,hgc⟩:=HR43.out.last HN.out
    cases hp9
    obtain⟨⟨u0,k0⟩,f0⟩:=hgc 0 (by decide)
    obtain⟨⟨u1,k1⟩,f1⟩:=hgc 1 (by decide)
    obtain⟨⟨u2,k2⟩,f2⟩:=hgc 2 (by decide)
    obtain⟨⟨u3,k3⟩,f3⟩:=hgc 3 (by decide)
    obtain⟨⟨u4,k4⟩,f4⟩:=hgc 4 (by decide)
    obtain⟨⟨u5,k5⟩,f5⟩:=hgc 5 (by decide)
    rw [Nat.add_zero] at k0 f0
    obtain⟨w44,HW⟩:∃q,Hid (q=((((((w43.setCell ⟨g,n*6,none⟩ (.int .i64 y.kind)).setCell ⟨g,n*6+1,none⟩ (.int .i64 y.op)).setCell ⟨g,n*6+2,none⟩ (.int .i64 y.int)).setCell ⟨g,n*6+3,none⟩ (.string y.name)).setCell ⟨g,n*6+4,none⟩ (.bool y.at_)).setCell ⟨g,n*6+5,none⟩ (.slice py AN cy))):=⟨_,Lib.hid rfl⟩
    have HR44:=Lib.hid (HR43.out.put (z:=(.mk 0 0 0 ⟨#[]⟩ false [],.slice none 0 0)) y (.slice py AN cy) ⟨HBY.out,by have h9:=HP43.out;exact h9⟩ HN.out HW.out)
    have hgr:w43.grownBy w44 (some g):=by rw [HW.out];exact set6o_gr w43 g (n*6) _ _ _ _ _ _
    have C44:=Lib.hid (My.push C43.out hgr (fun q hq=>by injection hq with hq;subst hq;exact⟨hBg,fun hm=>hgn _ hm rfl⟩))
    go_simp
    rw [←HW.out]
    refine hK.out _ _ ?_ (fun hHeld=>?_)
    ·exact six_of (C44.out.b 1 rfl)
    clear hK K hHeld
    try simp only [Act.put,q0,q1,q2]
    clear HW hgr C43 HR43 HP43 hBg hgl hgn hgc k0 f0 k1 f1 k2 f2 k3 f3 k4 f4 k5 f5
    refine rR1 8 none (fun K hK=>?_)
    have q2:=cells1 (C44.out.b 2 rfl)
    obtain⟨w45,HW⟩:∃q,Hid (q=w44.setCell ⟨B,0,none⟩ (.slice (some ⟨g,0,none⟩) (n+1) c43)):=⟨_,Lib.hid rfl⟩
    have hgr:w44.grownBy w45 (some B):=by rw [HW.out];exact gr_set w44 B 0 _
    have C45:=Lib.hid ((C44.out.set (W':=w45) 2 rfl hgr (by rw [HW.out];exact heap_set (j:=0) _ (C44.out.b 2 rfl))).nrm (bs':= [(G,#[.int .i64 0,.int .i64 0,.int .i64 0,.string ⟨#[]⟩,.bool false,.slice none 0 0],37),(E,#[.int .i64 x.kind,.int .i64 x.op,.int .i64 x.int,.string x.name,.bool x.at_,.slice pa AX ca],37),(B,#[.slice (some ⟨g,0,none⟩) (n+1) c43],35)]) rfl)
    have HR45:=Lib.hid (HR44.out.keep readET_mono hgr (fun q e=>by injection e with e;subst e;exact .inr (by simp)) (fun q e h9=>HR44.out.nin B (by simp) (by rw [h9];exact e.symm)))
    go_simp
    rw [←HW.out]
    refine hK.out _ _ ?_ (fun hHeld=>?_)
    ·exact six_of (C45.out.b 1 rfl)
    clear hK K hHeld
    try simp only [Act.put,q0,q1,q2]
    clear HW hgr C44 HR44  q2
    refine wpAnyH_done (by kernel_rfl) ?_ _
    go_wp2_with fail
    go_end0
    exact⟨rfl,_,C45.out.tl.tl,_,HR45.out.sub readET_mono (fun q hq=>List.mem_cons_of_mem _ (List.mem_cons_of_mem _ hq))⟩
   ·have q2:=cells1 (C43.out.b 2 rfl)
    obtain⟨w46,HW⟩:∃q,Hid (q=w43.setCell ⟨B,0,none⟩ (.slice (some ⟨g,0,none⟩) (n+1) c43)):=⟨_,Lib.hid rfl⟩
    have hgr:w43.grownBy w46 (some B):=by rw [HW.out];exact gr_set w43 B 0 _
    have C46:=Lib.hid ((C43.out.set (W':=w46) 2 rfl hgr (by rw [HW.out];exact heap_set (j:=0) _ (C43.out.b 2 rfl))).nrm (bs':= [(G,#[.int .i64 0,.int .i64 0,.int .i64 0,.string ⟨#[]⟩,.bool false,.slice none 0 0],37),(E,#[.int .i64 x.kind,.int .i64 x.op,.int .i64 x.int,.string x.name,.bool x.at_,.slice pa AX ca],37),(B,#[.slice (some ⟨g,0,none⟩) (n+1) c43],35)]) rfl)
    have HR46:=Lib.hid (HR43.out.keep readET_mono hgr (fun q e=>by injection e with e;subst e;exact .inr (by simp)) (fun q e h9=>HR43.out.nin B (by simp) (by rw [h9];exact e.symm)))
    have HP46:=Lib.hid (SlE.inc HP43.out (up_step (B':=w.heap.size) (l':= [G,E,B]++ownL (.slice (some ⟨g,0,none⟩) (n+1) c43)) hgr (fun q e=>by injection e with e;subst e;exact .inr (by simp)) (fun _ _ h=>h)))
    go_simp
    rw [←HW.out]
    refine hK.out _ _ ?_ (fun hHeld=>?_)
    ·exact six_of (C46.out.b 1 rfl)
    clear hK K hHeld
    try simp only [Act.put,q0,q1,q2]
    clear HW hgr C43 HR43 HP43 q2
    refine rR1 7 none (fun K hK=>?_)
    obtain⟨_,g9,hp9,hBg,hgl,hgn,hgc⟩:=HR46.out.last HN.out
    cases hp9
    obtain⟨⟨u0,k0⟩,f0⟩:=hgc 0 (by decide)
    obtain⟨⟨u1,k1⟩,f1⟩:=hgc 1 (by decide)
    obtain⟨⟨u2,k2⟩,f2⟩:=hgc 2 (by decide)
    obtain⟨⟨u3,k3⟩,f3⟩:=hgc 3 (by decide)
    obtain⟨⟨u4,k4⟩,f4⟩:=hgc 4 (by decide)
    obtain⟨⟨u5,k5⟩,f5⟩:=hgc 5 (by decide)
    rw [Nat.add_zero] at k0 f0
    obtain⟨w47,HW⟩:∃q,Hid (q=((((((w46.setCell ⟨g,n*6,none⟩ (.int .i64 y.kind)).setCell ⟨g,n*6+1,none⟩ (.int .i64 y.op)).setCell ⟨g,n*6+2,none⟩ (.int .i64 y.int)).setCell ⟨g,n*6+3,none⟩ (.string y.name)).setCell ⟨g,n*6+4,none⟩ (.bool y.at_)).setCell ⟨g,n*6+5,none⟩ (.slice py AN cy))):=⟨_,Lib.hid rfl⟩
    have HR47:=Lib.hid (HR46.out.put (z:=(.mk 0 0 0 ⟨#[]⟩ false [],.slice none 0 0)) y (.slice py AN cy) ⟨HBY.out,by have h9:=HP46.out;exact h9⟩ HN.out HW.out)
    have hgr:w46.grownBy w47 (some g):=by rw [HW.out];exact set6o_gr w46 g (n*6) _ _ _ _ _ _
    have C47:=Lib.hid (My.push C46.out hgr (fun q hq=>by injection hq with hq;subst hq;exact⟨hBg,fun hm=>hgn _ hm rfl⟩))
    go_simp
    rw [←HW.out]
    refine hK.out _ _ ?_ (fun hHeld=>?_)
    ·exact six_of (C47.out.b 1 rfl)
    clear hK K hHeld
    try simp only [Act.put,q0,q1,q2]
    clear HW hgr C46 HR46 HP46 hBg hgl hgn hgc k0 f0 k1 f1 k2 f2 k3 f3 k4 f4 k5 f5
    refine wpAnyH_done (by kernel_rfl) ?_ _
    go_wp2_with fail
    go_end0
    exact⟨rfl,_,C47.out.tl.tl,_,HR47.out.sub readET_mono (fun q hq=>List.mem_cons_of_mem _ (List.mem_cons_of_mem _ hq))⟩
theorem eachL_any {w W:World} {B:Nat} (h:My w [(B,#[.slice none 0 0],35)] [] W) (l:List Tr.E) (vl:Value) (hS:SlE w vl l) (hw:Co.wEs l≤900000) (hv:Tr.validEs l=true):
 Calls Tryz.prog 130 #[vl,.func (.func 131) #[] #[.pointer (some ⟨B,0,none⟩)]] W (fun e W'=>e= .returned (.tuple #[])∧∃v',My w [(B,#[v'],35)] [] W'∧SlE (hide (upL w.heap.size [B]) W') v' (Co.folds l)):=by
 have hll:=wEs_len l
 have hI:=eachS_any (PP:=B) (I:=fun j W'=>∃v tr,tr.map Prod.fst=Co.folds (l.take j)∧My w [(B,#[v],35)] [] W'∧RowOk eCells 6 37 ReadET w.heap.size [B] W' v (tr)) l (v:=vl) (w:=W) (by omega) ?_ ?_ ?_
 ·refine hI.mono ?_
  rintro e w' ⟨rfl,v,tr,he,hm,hr⟩
  rw [List.take_of_length_le (Nat.le_refl _)] at he
  refine⟨rfl,v,hm,?_⟩
  rw [←he]
  exact hr.slE (l':= [B]) (fun q hq=>hq) (fun q hq=>hr.nin q hq)
 ·exact⟨_,[],by rw [List.take_zero,Co.folds];rfl,h,RowOk.nil⟩
 ·obtain⟨p,c,e,_⟩:=hS.form
  exact⟨p,c,e⟩
 ·rintro j x W1 hx ⟨v,tr,he,hm,hr⟩
  refine⟨fun b=>decide (w.heap.size≤b),SlE.inc hS ⟨by rw [hide_size];exact hm.le,fun b o u hc=>?_⟩,fun a W2 hbd hb hs=>?_⟩
  ·have hlt:=cell_lt' hc
   rw [hide_cell? (decide_eq_false (by omega))]
   have h2:=(My.fin hm).block b hlt
   unfold World.cell? at hc ⊢
   rw [h2]
   exact hc
  ·have htl:tr.length≤900000:=by
    have h9:=congrArg List.length he
    rw [List.length_map,Co.folds_len,List.length_take] at h9
    omega
   refine(st1_any (hm.below hb) (hr.below readET_mono hb) htl x a (Nat.le_trans (wEs_get hx) hw) (validEs_get hv hx) hbd (SlE.inc hs (lo_inc hb.size (fun b hlt _=>hb.block b hlt)))).mono ?_
   rintro e w' ⟨rfl,v',a',hm',hr'⟩
   exact⟨rfl,v',_,by rw [List.map_append,he,folds_step hx];rfl,hm',hr'⟩
end Cw
end Go.Proofs.YtcnmfcgmnkncaaaGreatDoor
