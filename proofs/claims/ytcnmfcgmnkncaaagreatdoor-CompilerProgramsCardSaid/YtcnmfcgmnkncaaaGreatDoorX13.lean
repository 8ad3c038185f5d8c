/-
  CoSt1, CoExprB.
-/
import Derived.Test.YtcnmfcgmnkncaaaGreatDoorX12
set_option maxRecDepth 100000
set_option maxHeartbeats 40000000
open Go.Proofs.Tryz
namespace Go.Proofs.YtcnmfcgmnkncaaaGreatDoor
namespace Cw
open Go.RowKit Go.Maps Pw
theorem zCC {W:World} {X:Nat} {v0 v1 v2 v3 v4 v5:Value} {t:TypeId} (h:W.heap[X]? =some (.cells #[v0,v1,v2,v3,v4,v5] t (0,0))):W.cell? ⟨X,0,none⟩=some v0/\W.cell? ⟨X,1,none⟩=some v1/\W.cell? ⟨X,2,none⟩=some v2/\W.cell? ⟨X,3,none⟩=some v3/\W.cell? ⟨X,4,none⟩=some v4/\W.cell? ⟨X,5,none⟩=some v5:=
 ⟨zB h (j:=0) rfl,zB h (j:=1) rfl,zB h (j:=2) rfl,zB h (j:=3) rfl,zB h (j:=4) rfl,zB h (j:=5) rfl⟩
theorem lo_My {w W W':World} {bs bs':List Bk} {a:Value} {l:List Tr.E} (h:My w bs [] W) (h':My w bs' [] W') (hs:W.heap.size<=W'.heap.size) (hS:SlE (loW w.heap.size W) a l):SlE W' a l:=
 SlE.inc (SlE.inc hS (zCF hs (fun b _ h0=>((My.fin h').block b h0).trans ((My.fin h).block b h0).symm))) (zG5 _ _)
theorem zeroET {W:World}:zBD W (.mk 0 0 0 ⟨#[]⟩ false [],.slice none 0 0):=⟨⟨zBS (n:=0) (by decide) (by decide),zBS (n:=0) (by decide) (by decide),zBS (n:=0) (by decide) (by decide),zGZ⟩,.nil none 0⟩
theorem RowOk.last {B:Nat} {l:List Nat} {W:World} {p:Option Addr} {n c:Nat} {tr:List ET} {z:ET} (h:RowOk zAK 6 37 zBD B l W (.slice p n c) (tr++ [z])) {m:Nat} (hm:tr.length=m):n=m+1/\∃g,p=some ⟨g,0,none⟩/\B<=g/\g<W.heap.size/\(∀q∈l,g≠q)/\∀j,j<6->(∃u,W.cell? ⟨g,m*6+j,none⟩=some u)/\W.frozen? ⟨g,m*6+j,none⟩=false:=by
 rcases h.own.2 with ⟨e,h2⟩|⟨b,cap,cur,e,hb,hblk,hn,hmx,hcs,ht⟩
 ·have h3:=h.own.1;rw [kN] at h3;injection e with e1 e2 e3
  exfalso;rw [kN] at h2;have:([z]:List ET).length=1:=rfl;omega
 ·injection e with e1 e2 e3
  subst e1 e3;rw [kN,hm] at e2 hn;refine⟨e2,b,rfl,hb,lt_of_block hblk,fun q hq e=>h.nin q hq (by rw [<-e];rfl),fun j hj=>?_⟩;have hsz:m*6+j<cur.size:=by
   have:([z]:List ET).length=1:=rfl;omega
  exact⟨⟨cur[m*6+j],zB hblk (Array.getElem?_eq_getElem hsz)⟩,zP hblk _⟩
theorem zUZ {w W:World} {B:Nat} {v:Value} {tr:List ET} (h:My w [(B,#[v],35)] [] W) (hr:RowOk zAK 6 37 zBD w.heap.size [B] W v (tr)) (htl:tr.length<=900000) (x:Tr.E) (a:Value) (hw:Co.wE x<=900000) (hv:Tr.zE x=true) (hbd:BdE x) (hs:SlE (loW w.heap.size W) a x.args):
 Calls prog 131 #[zK x a,.pointer (some ⟨B,0,none⟩)] W (fun e W'=>e= .returned (.tuple #[])/\∃v' a',My w [(B,#[v'],35)] [] W'/\RowOk zAK 6 37 zBD w.heap.size [B] W' v' (tr++ [(Co.fold x,a')])):=by
 obtain⟨i0,hi0,hz0,hz1,hz2⟩:=info_parts exprInfo;obtain⟨pa,ca,rfl,_⟩:=SlE.form hs;obtain⟨AX,hAX⟩:∃q,x.args.length=q:=⟨_,rfl⟩;rw [hAX] at hs;obtain⟨y,hy⟩:∃q,Co.fold x=q:=⟨_,rfl⟩;have KF:Hid (∀(bs':List Bk) (W':World),My w bs' [] W'->W.heap.size<=W'.heap.size->Calls prog 41 #[zK x (.slice pa AX ca)] W' (FP y W')):=zh (fun bs' W' h' hsz=>by rw [<-hy];exact zN9 _ x _ W' (kL _) hw hv hbd (lo_My h h' hsz hs));unfold zK at KF;obtain⟨pv,cv,rfl⟩:=own_form hr.own;obtain⟨n,hn⟩:∃q,tr.length=q:=⟨_,rfl⟩;rw [hn] at hr h htl;have C0:=zh h;have HR0:=zh hr;have HN:=zh hn;have HSZ0:=zh (kL W.heap.size);unfold zK;rw [hAX,hy];clear h hr hs hw hv hbd hn hAX hy;obtain⟨E,w1,HX,HW,hx1,C1⟩:=C0.boxE #[.int .i64 x.kind,.int .i64 x.op,.int .i64 x.int,.string x.name,.bool x.at_,.slice pa AX ca] 37;have HR1:=zh (HR0.box zR HX (.cells #[.int .i64 x.kind,.int .i64 x.op,.int .i64 x.int,.string x.name,.bool x.at_,.slice pa AX ca] 37));rw [<-HW.out] at HR1;have HSZ1:Hid (W.heap.size<=w1.heap.size):=zh (by rw [HW.out,World.size_alloc];omega);go_in;go_upto_region 1 with fail;rw [<-HX.out,<-HW.out];clear HX HW C0 HR0 HSZ0;obtain⟨w2,HW,C2⟩:=C1.drewE;have hbd9:Below w1.heap.size w1 w2:=by rw [HW.out];exact zEH (zGA (zCQ _ _))
 have HR2:=zh (HR1.below zR hbd9);have HSZ2:=zh (kG HSZ1 hbd9.size);clear hbd9 HR1 HSZ1;refine wp_region_held_drew (S:=fun W=>W.cell? ⟨E,0,none⟩=some (.int .i64 x.kind)/\W.cell? ⟨E,1,none⟩=some (.int .i64 x.op)/\W.cell? ⟨E,2,none⟩=some (.int .i64 x.int)/\W.cell? ⟨E,3,none⟩=some (.string x.name)/\W.cell? ⟨E,4,none⟩=some (.bool x.at_)/\W.cell? ⟨E,5,none⟩=some (.slice pa AX ca)) (by kernel_rfl) (by rw [<-HW.out];exact zCC (C2.b 0 rfl)) (fun hH=>?_);rw [<-HW.out] at hH |-;clear HW C1;refine rU 1 (some 4) ?_;refine zDK (T:=fun W=>W.cell? ⟨B,0,none⟩=some (.slice pv n cv)) (k:=5) _ _ _ _ ?_;replace hH:=And.intro hH (zB (C2.b 1 rfl) (j:=0) rfl);refine tT 0 (some 3) ?_
 try simp only [Act.put,q0,q1,q2]
 refine tT 3 (some 6) ?_
 try simp only [Act.put,q0,q1,q2]
 clear hH;refine tR2 2 (some 5) 4 (some 7) (fun K hK=>?_) (fun K hK=>?_)
 ·go_simp;refine(KF _ w2 C2 HSZ2).mono ?_;rintro e w3 ⟨a',rfl,hby,hsy,hb⟩;obtain⟨py,cy,rfl,_⟩:=hsy.form;obtain⟨AN,hAN⟩:∃q,y.args.length=q:=⟨_,rfl⟩;rw [hAN] at hsy |-;have HAN:=zh hAN;have HBY:=zh hby;have HR3:=zh (HR2.below zR hb);have HSZ3:=zh (kG HSZ2 hb.size);have HP3:=zh (SlE.inc hsy (HR2.pend C2.le (fun q hq=>(C2.lts hq).2.1)));have C3:=zh (C2.below hb);clear hb hsy hby hAN C2 HR2 HSZ2;unfold zK;go_wp2;refine hK _ _ ?_ (fun hH=>?_)
  ·exact⟨zCC (C3.b 0 rfl),zB (C3.b 1 rfl) (j:=0) rfl⟩
  clear hK K hH
  try simp only [Act.put,q0,q1,q2]
  refine tR1 4 (some 7) (fun K hK=>?_);obtain⟨G,w5,HG,HWG,hxg,C5⟩:=C3.boxE #[.int .i64 0,.int .i64 0,.int .i64 0,.string ⟨#[]⟩,.bool false,.slice none 0 0] 37;have HR5:=zh (HR3.box zR HG (.cells #[.int .i64 0,.int .i64 0,.int .i64 0,.string ⟨#[]⟩,.bool false,.slice none 0 0] 37));rw [<-HWG.out] at HR5;have HSZ5:Hid (W.heap.size<=w5.heap.size):=zh (by have h9:=HSZ3.out;rw [HWG.out,World.size_alloc];omega);have HP5:=zh (SlE.inc HP3 (zTL HG (.cells #[.int .i64 0,.int .i64 0,.int .i64 0,.string ⟨#[]⟩,.bool false,.slice none 0 0] 37)));rw [<-HWG.out] at HP5;go_simp;rw [<-HG.out,<-HWG.out];refine hK _ _ ?_ (fun hH=>?_)
  ·exact⟨zCC (C5.b 1 rfl),zB (C5.b 2 rfl) (j:=0) rfl⟩
  clear hK K hH
  try simp only [Act.put,q0,q1,q2]
  clear HG HWG C3 HR3 HSZ3 HP3;refine tK 5 (some 8) (fun K hK=>?_);refine zB0 zBO (fun _ _ _ hi hx=>⟨zR _ _ _ hi hx.1,SlE.inc hx.2 hi⟩) rfl _ _ 35 rfl i0 (.agg #[.int .i64 0,.int .i64 0,.int .i64 0,.string ⟨#[]⟩,.bool false,.slice none 0 0]) 72 underlying35 hi0 hz0 hz1 hz2 rfl (by decide) _ [(.mk 0 0 0 ⟨#[]⟩ false [],.slice none 0 0)] rfl rfl (HR5.both (P:=fun U=>SlE U (.slice py AN cy) y.args) HP5) (SrcAt.of_blk (f:=zAK) (x:=(.mk 0 0 0 ⟨#[]⟩ false [],.slice none 0 0)) (C5.b 0 rfl) rfl) (fun x hx=>by rw [kT.1 hx];exact⟨zeroET,HP5⟩) (zGG (w:=w5) (fun x hx=>by rw [kT.1 hx];exact zeroET)) (by have:=HN.out;simp only [kI,kQ];unfold maxLen;omega) (by have:=HN.out;simp only [kI,kQ];omega) C5.le (fun q hq=>(C5.lts hq).2.1) ?_;intro v6 w6 hr hg;have C6:=zh (My.push C5 hg (fun q hq=>⟨(HR5.ge hq).1,fun hm=>HR5.nin q hm hq⟩));have HSZ6:=zh (kG HSZ5 hg.size);obtain⟨p6,c6,rfl⟩:=own_form hr.own;obtain⟨m6,hm6⟩:∃q,(tr++ [(.mk 0 0 0 ⟨#[]⟩ false [],.slice none 0 0)]:List ET).length=q:=⟨_,rfl⟩;rw [hm6] at hr |-;clear hm6;have HR6:=zh hr.left;have HP6:=zh (hr.right (x:=(.mk 0 0 0 ⟨#[]⟩ false [],.slice none 0 0)) (kU.2 (.inr (kH ..))));clear hr hg C5 HR5 HSZ5 HP5;refine hK _ _ ?_ (fun hH=>?_)
  ·exact zCC (C6.b 1 rfl)
  clear hK K hH
  try simp only [Act.put,q0,q1,q2]
  obtain⟨hm9,g,hp9,hBg,hgl,hgn,hgc⟩:=HR6.last HN;subst hm9 hp9;clear hBg hgl hgn hgc;have b1:(0:Int)<=(n:Int):=(by omega);have b2:(n:Int)<(n:Int)+1:=(by omega);have hH:=zCC (C6.b 1 rfl);refine rU 6 (some 9) ?_;refine rR2 7 none 8 none (fun K hK=>?_) (fun K hK=>?_)
  ·obtain⟨_,g9,hp9,hBg,hgl,hgn,hgc⟩:=HR6.last HN;cases hp9;obtain⟨⟨u0,k0⟩,f0⟩:=hgc 0 (by decide);obtain⟨⟨u1,k1⟩,f1⟩:=hgc 1 (by decide);obtain⟨⟨u2,k2⟩,f2⟩:=hgc 2 (by decide);obtain⟨⟨u3,k3⟩,f3⟩:=hgc 3 (by decide);obtain⟨⟨u4,k4⟩,f4⟩:=hgc 4 (by decide);obtain⟨⟨u5,k5⟩,f5⟩:=hgc 5 (by decide);rw [Nat.add_zero] at k0 f0;obtain⟨w7,HW⟩:∃q,Hid (q=((((((w6.setCell ⟨g,n*6,none⟩ (.int .i64 y.kind)).setCell ⟨g,n*6+1,none⟩ (.int .i64 y.op)).setCell ⟨g,n*6+2,none⟩ (.int .i64 y.int)).setCell ⟨g,n*6+3,none⟩ (.string y.name)).setCell ⟨g,n*6+4,none⟩ (.bool y.at_)).setCell ⟨g,n*6+5,none⟩ (.slice py AN cy))):=⟨_,zh rfl⟩;have HR7:=zh (HR6.put (z:=(.mk 0 0 0 ⟨#[]⟩ false [],.slice none 0 0)) y (.slice py AN cy) ⟨HBY,by have h9:=HP6.out;exact h9⟩ HN HW);have hgr:w6.grownBy w7 (some g):=by rw [HW.out];exact zFD w6 g (n*6) _ _ _ _ _ _
   have C7:=zh (My.push C6 hgr (fun q hq=>by injection hq with hq;subst hq;exact⟨hBg,fun hm=>hgn _ hm rfl⟩));go_simp;rw [<-HW.out];refine hK _ _ ?_ (fun hH=>?_)
   ·exact zCC (C7.b 1 rfl)
   clear hK K hH
   try simp only [Act.put,q0,q1,q2]
   clear HW hgr C6 HR6 HP6 hBg hgl hgn hgc k0 f0 k1 f1 k2 f2 k3 f3 k4 f4 k5 f5;refine rR1 8 none (fun K hK=>?_);have q2:=zS (C7.b 2 rfl);obtain⟨w8,HW⟩:∃q,Hid (q=w7.setCell ⟨B,0,none⟩ (.slice (some ⟨g,0,none⟩) (n+1) c6)):=⟨_,zh rfl⟩;have hgr:w7.grownBy w8 (some B):=by rw [HW.out];exact zW w7 B 0 _
   have C8:=zh ((C7.set (W':=w8) 2 rfl hgr (by rw [HW.out];exact heap_set (j:=0) _ (C7.b 2 rfl))).nrm (bs':= [(G,#[.int .i64 0,.int .i64 0,.int .i64 0,.string ⟨#[]⟩,.bool false,.slice none 0 0],37),(E,#[.int .i64 x.kind,.int .i64 x.op,.int .i64 x.int,.string x.name,.bool x.at_,.slice pa AX ca],37),(B,#[.slice (some ⟨g,0,none⟩) (n+1) c6],35)]) rfl);have HR8:=zh (HR7.keep zR hgr (fun q e=>by injection e with e;subst e;exact .inr (by simp)) (fun q e h9=>HR7.nin B (by simp) (by rw [h9];exact e.symm)));go_simp;rw [<-HW.out];refine hK _ _ ?_ (fun hH=>?_)
   ·exact zCC (C8.b 1 rfl)
   clear hK K hH
   try simp only [Act.put,q0,q1,q2]
   clear HW hgr C7 HR7  q2;refine wpAnyH_done (by kernel_rfl) ?_ _;go_wp2_with fail;go_end0;exact⟨rfl,_,C8.tl.tl,_,HR8.sub zR (fun q hq=>kK _ (kK _ hq))⟩
  ·have q2:=zS (C6.b 2 rfl);obtain⟨w9,HW⟩:∃q,Hid (q=w6.setCell ⟨B,0,none⟩ (.slice (some ⟨g,0,none⟩) (n+1) c6)):=⟨_,zh rfl⟩;have hgr:w6.grownBy w9 (some B):=by rw [HW.out];exact zW w6 B 0 _
   have C9:=zh ((C6.set (W':=w9) 2 rfl hgr (by rw [HW.out];exact heap_set (j:=0) _ (C6.b 2 rfl))).nrm (bs':= [(G,#[.int .i64 0,.int .i64 0,.int .i64 0,.string ⟨#[]⟩,.bool false,.slice none 0 0],37),(E,#[.int .i64 x.kind,.int .i64 x.op,.int .i64 x.int,.string x.name,.bool x.at_,.slice pa AX ca],37),(B,#[.slice (some ⟨g,0,none⟩) (n+1) c6],35)]) rfl);have HR9:=zh (HR6.keep zR hgr (fun q e=>by injection e with e;subst e;exact .inr (by simp)) (fun q e h9=>HR6.nin B (by simp) (by rw [h9];exact e.symm)));have HP9:=zh (SlE.inc HP6 (zBQ (B':=w.heap.size) (l':= [G,E,B]++ownL (.slice (some ⟨g,0,none⟩) (n+1) c6)) hgr (fun q e=>by injection e with e;subst e;exact .inr (by simp)) (fun _ _ h=>h)));go_simp;rw [<-HW.out];refine hK _ _ ?_ (fun hH=>?_)
   ·exact zCC (C9.b 1 rfl)
   clear hK K hH
   try simp only [Act.put,q0,q1,q2]
   clear HW hgr C6 HR6 HP6 q2;refine rR1 7 none (fun K hK=>?_);obtain⟨_,g9,hp9,hBg,hgl,hgn,hgc⟩:=HR9.last HN;cases hp9;obtain⟨⟨u0,k0⟩,f0⟩:=hgc 0 (by decide);obtain⟨⟨u1,k1⟩,f1⟩:=hgc 1 (by decide);obtain⟨⟨u2,k2⟩,f2⟩:=hgc 2 (by decide);obtain⟨⟨u3,k3⟩,f3⟩:=hgc 3 (by decide);obtain⟨⟨u4,k4⟩,f4⟩:=hgc 4 (by decide);obtain⟨⟨u5,k5⟩,f5⟩:=hgc 5 (by decide);rw [Nat.add_zero] at k0 f0;obtain⟨w10,HW⟩:∃q,Hid (q=((((((w9.setCell ⟨g,n*6,none⟩ (.int .i64 y.kind)).setCell ⟨g,n*6+1,none⟩ (.int .i64 y.op)).setCell ⟨g,n*6+2,none⟩ (.int .i64 y.int)).setCell ⟨g,n*6+3,none⟩ (.string y.name)).setCell ⟨g,n*6+4,none⟩ (.bool y.at_)).setCell ⟨g,n*6+5,none⟩ (.slice py AN cy))):=⟨_,zh rfl⟩;have HR10:=zh (HR9.put (z:=(.mk 0 0 0 ⟨#[]⟩ false [],.slice none 0 0)) y (.slice py AN cy) ⟨HBY,by have h9:=HP9.out;exact h9⟩ HN HW);have hgr:w9.grownBy w10 (some g):=by rw [HW.out];exact zFD w9 g (n*6) _ _ _ _ _ _
   have C10:=zh (My.push C9 hgr (fun q hq=>by injection hq with hq;subst hq;exact⟨hBg,fun hm=>hgn _ hm rfl⟩));go_simp;rw [<-HW.out];refine hK _ _ ?_ (fun hH=>?_)
   ·exact zCC (C10.b 1 rfl)
   clear hK K hH
   try simp only [Act.put,q0,q1,q2]
   clear HW hgr C9 HR9 HP9 hBg hgl hgn hgc k0 f0 k1 f1 k2 f2 k3 f3 k4 f4 k5 f5;refine wpAnyH_done (by kernel_rfl) ?_ _;go_wp2_with fail;go_end0;exact⟨rfl,_,C10.tl.tl,_,HR10.sub zR (fun q hq=>kK _ (kK _ hq))⟩
 ·obtain⟨G,w11,HG,HWG,hxg,C11⟩:=C2.boxE #[.int .i64 0,.int .i64 0,.int .i64 0,.string ⟨#[]⟩,.bool false,.slice none 0 0] 37;have HR11:=zh (HR2.box zR HG (.cells #[.int .i64 0,.int .i64 0,.int .i64 0,.string ⟨#[]⟩,.bool false,.slice none 0 0] 37));rw [<-HWG.out] at HR11;have HSZ11:Hid (W.heap.size<=w11.heap.size):=zh (by have h9:=HSZ2.out;rw [HWG.out,World.size_alloc];omega);go_simp;rw [<-HG.out,<-HWG.out];refine hK _ _ ?_ (fun hH=>?_)
  ·exact⟨zCC (C11.b 1 rfl),zB (C11.b 2 rfl) (j:=0) rfl⟩
  clear hK K hH
  try simp only [Act.put,q0,q1,q2]
  clear HG HWG C2 HR2 HSZ2;refine tR1 2 (some 5) (fun K hK=>?_);go_simp;refine(KF _ w11 C11 HSZ11).mono ?_;rintro e w12 ⟨a',rfl,hby,hsy,hb⟩;obtain⟨py,cy,rfl,_⟩:=hsy.form;obtain⟨AN,hAN⟩:∃q,y.args.length=q:=⟨_,rfl⟩;rw [hAN] at hsy |-;have HAN:=zh hAN;have HBY:=zh hby;have HR12:=zh (HR11.below zR hb);have HSZ12:=zh (kG HSZ11 hb.size);have HP12:=zh (SlE.inc hsy (HR11.pend C11.le (fun q hq=>(C11.lts hq).2.1)));have C12:=zh (C11.below hb);clear hb hsy hby hAN C11 HR11 HSZ11;unfold zK;go_wp2;refine hK _ _ ?_ (fun hH=>?_)
  ·exact⟨zCC (C12.b 1 rfl),zB (C12.b 2 rfl) (j:=0) rfl⟩
  clear hK K hH
  try simp only [Act.put,q0,q1,q2]
  refine tK 5 (some 8) (fun K hK=>?_);refine zB0 zBO (fun _ _ _ hi hx=>⟨zR _ _ _ hi hx.1,SlE.inc hx.2 hi⟩) rfl _ _ 35 rfl i0 (.agg #[.int .i64 0,.int .i64 0,.int .i64 0,.string ⟨#[]⟩,.bool false,.slice none 0 0]) 72 underlying35 hi0 hz0 hz1 hz2 rfl (by decide) _ [(.mk 0 0 0 ⟨#[]⟩ false [],.slice none 0 0)] rfl rfl (HR12.both (P:=fun U=>SlE U (.slice py AN cy) y.args) HP12) (SrcAt.of_blk (f:=zAK) (x:=(.mk 0 0 0 ⟨#[]⟩ false [],.slice none 0 0)) (C12.b 0 rfl) rfl) (fun x hx=>by rw [kT.1 hx];exact⟨zeroET,HP12⟩) (zGG (w:=w12) (fun x hx=>by rw [kT.1 hx];exact zeroET)) (by have:=HN.out;simp only [kI,kQ];unfold maxLen;omega) (by have:=HN.out;simp only [kI,kQ];omega) C12.le (fun q hq=>(C12.lts hq).2.1) ?_;intro v14 w14 hr hg;have C14:=zh (My.push C12 hg (fun q hq=>⟨(HR12.ge hq).1,fun hm=>HR12.nin q hm hq⟩));have HSZ14:=zh (kG HSZ12 hg.size);obtain⟨p14,c14,rfl⟩:=own_form hr.own;obtain⟨m14,hm14⟩:∃q,(tr++ [(.mk 0 0 0 ⟨#[]⟩ false [],.slice none 0 0)]:List ET).length=q:=⟨_,rfl⟩;rw [hm14] at hr |-;clear hm14;have HR14:=zh hr.left;have HP14:=zh (hr.right (x:=(.mk 0 0 0 ⟨#[]⟩ false [],.slice none 0 0)) (kU.2 (.inr (kH ..))));clear hr hg C12 HR12 HSZ12 HP12;refine hK _ _ ?_ (fun hH=>?_)
  ·exact zCC (C14.b 1 rfl)
  clear hK K hH
  try simp only [Act.put,q0,q1,q2]
  obtain⟨hm9,g,hp9,hBg,hgl,hgn,hgc⟩:=HR14.last HN;subst hm9 hp9;clear hBg hgl hgn hgc;have b1:(0:Int)<=(n:Int):=(by omega);have b2:(n:Int)<(n:Int)+1:=(by omega);have hH:=zCC (C14.b 1 rfl);refine rU 6 (some 9) ?_;refine rR2 7 none 8 none (fun K hK=>?_) (fun K hK=>?_)
  ·obtain⟨_,g9,hp9,hBg,hgl,hgn,hgc⟩:=HR14.last HN;cases hp9;obtain⟨⟨u0,k0⟩,f0⟩:=hgc 0 (by decide);obtain⟨⟨u1,k1⟩,f1⟩:=hgc 1 (by decide);obtain⟨⟨u2,k2⟩,f2⟩:=hgc 2 (by decide);obtain⟨⟨u3,k3⟩,f3⟩:=hgc 3 (by decide);obtain⟨⟨u4,k4⟩,f4⟩:=hgc 4 (by decide);obtain⟨⟨u5,k5⟩,f5⟩:=hgc 5 (by decide);rw [Nat.add_zero] at k0 f0;obtain⟨w15,HW⟩:∃q,Hid (q=((((((w14.setCell ⟨g,n*6,none⟩ (.int .i64 y.kind)).setCell ⟨g,n*6+1,none⟩ (.int .i64 y.op)).setCell ⟨g,n*6+2,none⟩ (.int .i64 y.int)).setCell ⟨g,n*6+3,none⟩ (.string y.name)).setCell ⟨g,n*6+4,none⟩ (.bool y.at_)).setCell ⟨g,n*6+5,none⟩ (.slice py AN cy))):=⟨_,zh rfl⟩;have HR15:=zh (HR14.put (z:=(.mk 0 0 0 ⟨#[]⟩ false [],.slice none 0 0)) y (.slice py AN cy) ⟨HBY,by have h9:=HP14.out;exact h9⟩ HN HW);have hgr:w14.grownBy w15 (some g):=by rw [HW.out];exact zFD w14 g (n*6) _ _ _ _ _ _
   have C15:=zh (My.push C14 hgr (fun q hq=>by injection hq with hq;subst hq;exact⟨hBg,fun hm=>hgn _ hm rfl⟩));go_simp;rw [<-HW.out];refine hK _ _ ?_ (fun hH=>?_)
   ·exact zCC (C15.b 1 rfl)
   clear hK K hH
   try simp only [Act.put,q0,q1,q2]
   clear HW hgr C14 HR14 HP14 hBg hgl hgn hgc k0 f0 k1 f1 k2 f2 k3 f3 k4 f4 k5 f5;refine rR1 8 none (fun K hK=>?_);have q2:=zS (C15.b 2 rfl);obtain⟨w16,HW⟩:∃q,Hid (q=w15.setCell ⟨B,0,none⟩ (.slice (some ⟨g,0,none⟩) (n+1) c14)):=⟨_,zh rfl⟩;have hgr:w15.grownBy w16 (some B):=by rw [HW.out];exact zW w15 B 0 _
   have C16:=zh ((C15.set (W':=w16) 2 rfl hgr (by rw [HW.out];exact heap_set (j:=0) _ (C15.b 2 rfl))).nrm (bs':= [(G,#[.int .i64 0,.int .i64 0,.int .i64 0,.string ⟨#[]⟩,.bool false,.slice none 0 0],37),(E,#[.int .i64 x.kind,.int .i64 x.op,.int .i64 x.int,.string x.name,.bool x.at_,.slice pa AX ca],37),(B,#[.slice (some ⟨g,0,none⟩) (n+1) c14],35)]) rfl);have HR16:=zh (HR15.keep zR hgr (fun q e=>by injection e with e;subst e;exact .inr (by simp)) (fun q e h9=>HR15.nin B (by simp) (by rw [h9];exact e.symm)));go_simp;rw [<-HW.out];refine hK _ _ ?_ (fun hH=>?_)
   ·exact zCC (C16.b 1 rfl)
   clear hK K hH
   try simp only [Act.put,q0,q1,q2]
   clear HW hgr C15 HR15  q2;refine wpAnyH_done (by kernel_rfl) ?_ _;go_wp2_with fail;go_end0;exact⟨rfl,_,C16.tl.tl,_,HR16.sub zR (fun q hq=>kK _ (kK _ hq))⟩
  ·have q2:=zS (C14.b 2 rfl);obtain⟨w17,HW⟩:∃q,Hid (q=w14.setCell ⟨B,0,none⟩ (.slice (some ⟨g,0,none⟩) (n+1) c14)):=⟨_,zh rfl⟩;have hgr:w14.grownBy w17 (some B):=by rw [HW.out];exact zW w14 B 0 _
   have C17:=zh ((C14.set (W':=w17) 2 rfl hgr (by rw [HW.out];exact heap_set (j:=0) _ (C14.b 2 rfl))).nrm (bs':= [(G,#[.int .i64 0,.int .i64 0,.int .i64 0,.string ⟨#[]⟩,.bool false,.slice none 0 0],37),(E,#[.int .i64 x.kind,.int .i64 x.op,.int .i64 x.int,.string x.name,.bool x.at_,.slice pa AX ca],37),(B,#[.slice (some ⟨g,0,none⟩) (n+1) c14],35)]) rfl);have HR17:=zh (HR14.keep zR hgr (fun q e=>by injection e with e;subst e;exact .inr (by simp)) (fun q e h9=>HR14.nin B (by simp) (by rw [h9];exact e.symm)));have HP17:=zh (SlE.inc HP14 (zBQ (B':=w.heap.size) (l':= [G,E,B]++ownL (.slice (some ⟨g,0,none⟩) (n+1) c14)) hgr (fun q e=>by injection e with e;subst e;exact .inr (by simp)) (fun _ _ h=>h)));go_simp;rw [<-HW.out];refine hK _ _ ?_ (fun hH=>?_)
   ·exact zCC (C17.b 1 rfl)
   clear hK K hH
   try simp only [Act.put,q0,q1,q2]
   clear HW hgr C14 HR14 HP14 q2;refine rR1 7 none (fun K hK=>?_);obtain⟨_,g9,hp9,hBg,hgl,hgn,hgc⟩:=HR17.last HN;cases hp9;obtain⟨⟨u0,k0⟩,f0⟩:=hgc 0 (by decide);obtain⟨⟨u1,k1⟩,f1⟩:=hgc 1 (by decide);obtain⟨⟨u2,k2⟩,f2⟩:=hgc 2 (by decide);obtain⟨⟨u3,k3⟩,f3⟩:=hgc 3 (by decide);obtain⟨⟨u4,k4⟩,f4⟩:=hgc 4 (by decide);obtain⟨⟨u5,k5⟩,f5⟩:=hgc 5 (by decide);rw [Nat.add_zero] at k0 f0;obtain⟨w18,HW⟩:∃q,Hid (q=((((((w17.setCell ⟨g,n*6,none⟩ (.int .i64 y.kind)).setCell ⟨g,n*6+1,none⟩ (.int .i64 y.op)).setCell ⟨g,n*6+2,none⟩ (.int .i64 y.int)).setCell ⟨g,n*6+3,none⟩ (.string y.name)).setCell ⟨g,n*6+4,none⟩ (.bool y.at_)).setCell ⟨g,n*6+5,none⟩ (.slice py AN cy))):=⟨_,zh rfl⟩;have HR18:=zh (HR17.put (z:=(.mk 0 0 0 ⟨#[]⟩ false [],.slice none 0 0)) y (.slice py AN cy) ⟨HBY,by have h9:=HP17.out;exact h9⟩ HN HW);have hgr:w17.grownBy w18 (some g):=by rw [HW.out];exact zFD w17 g (n*6) _ _ _ _ _ _
   have C18:=zh (My.push C17 hgr (fun q hq=>by injection hq with hq;subst hq;exact⟨hBg,fun hm=>hgn _ hm rfl⟩));go_simp;rw [<-HW.out];refine hK _ _ ?_ (fun hH=>?_)
   ·exact zCC (C18.b 1 rfl)
   clear hK K hH
   try simp only [Act.put,q0,q1,q2]
   clear HW hgr C17 HR17 HP17 hBg hgl hgn hgc k0 f0 k1 f1 k2 f2 k3 f3 k4 f4 k5 f5;refine wpAnyH_done (by kernel_rfl) ?_ _;go_wp2_with fail;go_end0;exact⟨rfl,_,C18.tl.tl,_,HR18.sub zR (fun q hq=>kK _ (kK _ hq))⟩
theorem zR9 {w W:World} {B:Nat} (h:My w [(B,#[.slice none 0 0],35)] [] W) (l:List Tr.E) (vl:Value) (hS:SlE w vl l) (hw:Co.wEs l<=900000) (hv:Tr.zT l=true):
 Calls prog 130 #[vl,.func (.func 131) #[] #[.pointer (some ⟨B,0,none⟩)]] W (fun e W'=>e= .returned (.tuple #[])/\∃v',My w [(B,#[v'],35)] [] W'/\SlE (hide (upL w.heap.size [B]) W') v' (Co.zG l)):=by
 have hll:=zJY l;have hI:=zR8 (PP:=B) (I:=fun j W'=>∃v tr,tr.map Prod.fst=Co.zG (l.take j)/\My w [(B,#[v],35)] [] W'/\RowOk zAK 6 37 zBD w.heap.size [B] W' v (tr)) l (v:=vl) (w:=W) (by omega) ?_ ?_ ?_
 ·refine hI.mono ?_;rintro e w' ⟨rfl,v,tr,he,hm,hr⟩;rw [kR (kL _)] at he;refine⟨rfl,v,hm,?_⟩;rw [<-he];exact hr.slE (l':= [B]) (fun q hq=>hq) (fun q hq=>hr.nin q hq)
 ·exact⟨_,[],by rw [List.take_zero,Co.zG];rfl,h,RowOk.nil⟩
 ·obtain⟨p,c,e,_⟩:=hS.form;exact⟨p,c,e⟩
 ·rintro j x W1 hx ⟨v,tr,he,hm,hr⟩;refine⟨fun b=>decide (w.heap.size<=b),SlE.inc hS ⟨by rw [zAW];exact hm.le,fun b o u hc=>?_⟩,fun a W2 hbd hb hs=>?_⟩
  ·have hlt:=zAR hc;rw [zBB (kE (by omega))];have h2:=(My.fin hm).block b hlt;unfold World.cell? at hc |-;rw [h2];exact hc
  ·have htl:tr.length<=900000:=by
    have h9:=congrArg List.length he;rw [List.length_map,Co.zAG,List.length_take] at h9;omega
   refine(zUZ (hm.below hb) (hr.below zR hb) htl x a (kG (zHF hx) hw) (zH hv hx) hbd (SlE.inc hs (zCF hb.size (fun b hlt _=>hb.block b hlt)))).mono ?_;rintro e w' ⟨rfl,v',a',hm',hr'⟩;exact⟨rfl,v',_,by rw [List.map_append,he,zEJ hx];rfl,hm',hr'⟩
def CR (b j:Nat) (v:Value):World->Prop:=fun W=>W.cell? ⟨b,j,none⟩=some v
theorem cr_mn {b j:Nat} {v:Value}:Mn (CR b j v):=fun _ _ hi h=>hi.2 _ _ _ h
theorem zOE {w:World} {L:List Nat} {b j:Nat} {v:Value} (h:w.cell? ⟨b,j,none⟩=some v) (hb:b∉L):CR b j v (hide (upL 0 L) w):=by
 unfold CR;rw [zBB (zCE (kO _) hb)];exact h
def CE (b o:Nat) (x:Tr.E) (a:Value):World->Prop:=fun W=>CellsE W b o x a
theorem ce_mn {b o:Nat} {x:Tr.E} {a:Value}:Mn (CE b o x a):=fun _ _ hi h=>h.inc hi
theorem zNM {B0 gb:Nat} {cs:List Tr.C} {cl:Tr.C} {pv fv mv:Value} {g:Co.G} {cv nv vv:Value} {w:World} {d:Nat} (hE:EC B0 gb cs cl pv fv mv d) {l:List Tr.E} {x:Tr.E} (hx:l[0]? =some x) (hd:x.deep<=d) (hv:Tr.zE x=true) (h:GS B0 gb cs cl pv fv mv g cv nv vv w) (hB:B0<=w.heap.size) {n:Nat} (hbd:Co.Bd n g/\n+Co.wE x+2<=900000) {p:Option Addr} {N c:Nat} (hN:0<N) (hS:SlE (hide (upL 0 (owl gb cv nv vv)) w) (.slice p N c) l) {X E:Nat} (hX:w.cell? ⟨X,0,none⟩=some (.pointer (some ⟨gb,0,none⟩))) (hXo:X∉owl gb cv nv vv) (hE5:w.cell? ⟨E,5,none⟩=some (.slice p N c)) (hEo:E∉owl gb cv nv vv) (op:Int):
 Calls prog 169 #[.int .i64 op,.pointer (some ⟨X,0,none⟩),.pointer (some ⟨E,0,none⟩)] w (GQ B0 gb cs cl pv fv mv (Co.emit (Co.gE cs cl.fields g x) op 0 0 1 1) cv nv vv w):=by
 obtain⟨b,oo,hp,hblt,pa,ca,hcx,hbx,hsx⟩:=Mg.elem (Mg.start (os:= [RE (.slice p N c) l]) h hB (fun r hr=>by rw [kT.1 hr];exact⟨re_mn,hS⟩)) 0 rfl hx;subst hp;obtain⟨AN,hAN⟩:∃q,x.args.length=q:=⟨_,rfl⟩;rw [hAN] at hcx hsx;obtain⟨b2,oo2,aa2,hp2,_,hcy,_,_⟩:=SlE.get hS hx;cases hp2;have HCY:Hid (CE b oo x (.slice pa AN ca) (hide (upL 0 (owl gb cv nv vv)) w)):=zh (by
  obtain⟨x0,x1,x2,x3,x4,x5⟩:=hcy;have y5:=(zQ x5).2;have z5:=hcx.2.2.2.2.2;rw [y5] at z5;injection z5 with z5
  subst z5;exact⟨by simpa using x0,by simpa using x1,by simpa using x2,by simpa using x3,by simpa using x4,by simpa using x5⟩)
 have C0:=zh (Mg.start (os:= [CE b oo x (.slice pa AN ca),CR X 0 (.pointer (some ⟨gb,0,none⟩)),CR E 5 (.slice (some ⟨b,oo,none⟩) N c)]) h hB (fun r hr=>by
  rcases kV.1 hr with rfl|hr
  ·exact⟨ce_mn,HCY⟩
  rcases kV.1 hr with rfl|hr
  ·exact⟨cr_mn,zOE hX hXo⟩
  rw [kT.1 hr];exact⟨cr_mn,zOE hE5 hEo⟩))
 have HT:Hid (n+Co.wE x+2<=900000):=zh hbd.2;have HBD:Hid (Co.Bd n g/\n<=900000):=zh ⟨hbd.1,by have:=hbd.2;omega⟩;have hNx:(0:Int)<(N:Int):=by omega
 have HKX:=zh (fun (w1:World) (h1:GS B0 gb cs cl pv fv mv g cv nv vv w1) (hb1:B0<=w1.heap.size) (hs1:SlE (hide (upL 0 (owl gb cv nv vv)) w1) (.slice pa AN ca) x.args)=>hE x g cv nv vv w1 _ n hd hv hbx h1 hb1 ⟨hbd.1,by have:=hbd.2;omega⟩ hs1);unfold zK at HKX;have hsd:SlE (hide (upL 0 (owl gb cv nv vv)) w.drew) (.slice pa AN ca) x.args:=SlE.inc hsx (by have h8:=(Gr.below (zEH (zGA (zCQ w none))) (owl gb cv nv vv)).inc [] (V:=0);rw [List.append_nil] at h8;exact h8);have HSD:=zh hsd;clear hsd;clear h hB hbd hE hS hx hd hv hX hXo hE5 hEo hcx hbx hsx hcy hAN HCY hblt;obtain⟨XX,hX⟩:∃q,Co.emit (Co.gE cs cl.fields g x) op 0 0 1 1=q:=⟨_,rfl⟩;rw [hX];have HX:=zh hX;clear hX;go_in;go_upto_region 0 with fail;obtain⟨w1,HW,C1⟩:=C0.drewE;refine wp_region_held_drew (S:=fun W=>W.cell? ⟨X,0,none⟩=some (.pointer (some ⟨gb,0,none⟩))/\W.cell? ⟨E,5,none⟩=some (.slice (some ⟨b,oo,none⟩) N c)/\W.cell? ⟨b,oo,none⟩=some (.int .i64 x.kind)/\W.cell? ⟨b,oo+1,none⟩=some (.int .i64 x.op)/\W.cell? ⟨b,oo+2,none⟩=some (.int .i64 x.int)/\W.cell? ⟨b,oo+3,none⟩=some (.string x.name)/\W.cell? ⟨b,oo+4,none⟩=some (.bool x.at_)/\W.cell? ⟨b,oo+5,none⟩=some (.slice pa AN ca)) (by kernel_rfl) (by rw [<-HW.out];exact⟨C1.rd 1 rfl,C1.rd 2 rfl,C1.rd 0 rfl⟩) (fun hH=>?_);rw [<-HW.out] at hH |-;have HWE:=HW;clear HW C0;refine rU 0 (some 4) ?_;refine rU 1 (some 5) ?_;refine rU 2 (some 6) ?_;refine rU 3 (some 7) ?_;refine rU 4 (some 8) ?_;refine rR1 5 (some 9) (fun K hK=>?_);go_simp;clear hH;refine(HKX w1 C1.q (kG C1.hB C1.le) (by first|exact HSD|(rw [HWE.out];exact HSD))).mono ?_;rintro e w2 hp2;obtain⟨rfl,cv2,nv2,vv2,C2⟩:=Mg.done C1 hp2;clear hp2 C1;have HB3:Hid (Co.Bd (n+Co.wE x) (Co.gE cs cl.fields (g) x)/\n+Co.wE x<=900000):=zh ⟨Co.gE_bd cs cl.fields _ _ x HBD.1,by have h9:=HT.out;omega⟩;clear HBD;go_wp2;refine hK _ _ ?_ (fun hH=>?_)
 ·exact⟨C2.rd 1 rfl,C2.rd 2 rfl,C2.rd 0 rfl⟩
 clear hK K
 try simp only [Act.put,q0,q1,q2]
 refine wpAnyH_done (by kernel_rfl) ?_ _;clear hH;have hx0:=C2.rd 1 rfl;unfold CR at hx0;go_wp2_with fail;refine(zAO C2.q (kG C2.hB C2.le) HB3 (op) (0) (0) (1) (1) ⟨by omega,by omega⟩ ⟨by omega,by omega⟩).mono ?_;rintro e w4 hp4;obtain⟨rfl,cv4,nv4,vv4,C4⟩:=Mg.done C2 hp4;clear hp4 C2;have HB5:Hid (Co.Bd (n+Co.wE x+1+1) (Co.emit (Co.gE cs cl.fields (g) x) (op) (0) (0) (1) (1))/\n+Co.wE x+1+1<=900000):=zh ⟨HB3.1.em (m:=1) ⟨by omega,by omega⟩ ⟨by omega,by omega⟩,by have h9:=HT.out;omega⟩;clear HB3;clear hx0;go_wp2_with fail;go_end0;have h9:=Mg.fin C4.out;rw [HX.out] at h9;exact h9
theorem zP1 {B0 gb:Nat} {cs:List Tr.C} {cl:Tr.C} {pv fv mv:Value} {g:Co.G} {cv nv vv:Value} {w:World} {d:Nat} (hE:EC B0 gb cs cl pv fv mv d) (e:Tr.E) (hk:e.kind=10) (hd:e.deep<=d+1) (hv:Tr.zE e=true) (h:GS B0 gb cs cl pv fv mv g cv nv vv w) (hB:B0<=w.heap.size) {n:Nat} (hbd:Co.Bd n g/\n+Co.wEs e.args+9<=900000) (a:Value) (hS:SlE (hide (upL 0 (owl gb cv nv vv)) w) a e.args):
 Calls prog 170 #[.pointer (some ⟨gb,0,none⟩),zK e a] w (GQ B0 gb cs cl pv fv mv (if e.op=11 then Co.gL cs cl.fields g 19 0 e.args else if e.op=12 then Co.gL cs cl.fields g 20 1 e.args else Co.emit (Co.gEs cs cl.fields g e.args) 16 e.op 0 2 1) cv nv vv w):=by
 obtain⟨X,hX⟩:∃q,(if e.op=11 then Co.gL cs cl.fields g 19 0 e.args else if e.op=12 then Co.gL cs cl.fields g 20 1 e.args else Co.emit (Co.gEs cs cl.fields g e.args) 16 e.op 0 2 1)=q:=⟨_,rfl⟩;rw [hX];obtain⟨k,o,i,nm,at_,l⟩:=e;change (if o=11 then Co.gL cs cl.fields g 19 0 l else if o=12 then Co.gL cs cl.fields g 20 1 l else Co.emit (Co.gEs cs cl.fields g l) 16 o 0 2 1)=X at hX;have hk:k=10:=hk;subst hk;have hvl:=(Co.zN hv).1;have HBD:Hid (Co.Bd n g/\n<=900000):=zh ⟨hbd.1,by have:=hbd.2;omega⟩;have hbd2:Co.Bd n g/\n+Co.wEs l+9<=900000:=hbd;have HT:Hid (n+Co.wEs l+9<=900000):=zh hbd2.2;have hS2:SlE (hide (upL 0 (owl gb cv nv vv)) w) a l:=hS;obtain⟨p,c,rfl,_⟩:=hS2.form;obtain⟨N,hN⟩:∃q,l.length=q:=⟨_,rfl⟩;rw [hN] at hS2 hS;have HLG:Hid (∀(j v:Int) (cv1 nv1 vv1:Value) (w1:World),GS B0 gb cs cl pv fv mv g cv1 nv1 vv1 w1->B0<=w1.heap.size->SlE (hide (upL 0 (owl gb cv1 nv1 vv1)) w1) (.slice p N c) l->_):=zh (fun j v cv1 nv1 vv1 w1 h1 hb1 hs1=>zQ6 hE (.mk 10 o i nm at_ l) rfl hd hv h1 hb1 hbd (.slice p N c) hs1 j v);have HEA:=zh hE;have HDA:Hid (∀(j:Nat) (x:Tr.E),l[j]? =some x->x.deep<=d):=zh (fun j x hx=>Tr.E.deep_args hd (j:=j) (x:=x) hx);have HVA:=zh hvl;have C0:=zh (Mg.start (os:= [RE (.slice p N c) l]) h hB (fun r hr=>by rw [kT.1 hr];exact⟨re_mn,hS2⟩));clear h hB hbd hE hS hd hv hS2 hvl hbd2;unfold zK at HLG |-;simp only [Tr.E.kind,Tr.E.op,Tr.E.int,Tr.E.name,Tr.E.at_,Tr.E.args] at HLG |-;rw [hN];have HX:=zh hX;clear hX hN;obtain⟨E,w6,HX6,HW6,hx6,C6⟩:=C0.boxE #[.int .i64 10,.int .i64 o,.int .i64 i,.string nm,.bool at_,.slice p N c] 37;go_in;go_upto_region 1 with fail;rw [<-HX6.out,<-HW6.out];clear HX6 HW6 C0;by_cases h11:o=11
 ·subst h11;obtain⟨Y,hY⟩:∃q,Co.gL cs cl.fields g 19 0 l=q:=⟨_,rfl⟩;have hXY:Y=X:=by
   rw [<-HX.out,<-hY]
   rfl
  have q0:=zF (C6.b 0 rfl);go_wp2_with fail;refine(HLG 19 0 _ _ _ w6 C6.q (kG C6.hB C6.le) (Mg.sight C6 0 rfl)).mono ?_;rw [hY,hXY];clear hY hXY;rintro e w7 hp7;obtain⟨rfl,cv7,nv7,vv7,C7⟩:=Mg.done C6 hp7;clear hp7 C6;go_wp2_with fail;go_end0;exact Mg.fin C7.out
 ·by_cases h12:o=12
  ·subst h12;obtain⟨Y,hY⟩:∃q,Co.gL cs cl.fields g 20 1 l=q:=⟨_,rfl⟩;have hXY:Y=X:=by
    rw [<-HX.out,<-hY]
    rfl
   have q0:=zF (C6.b 0 rfl);go_wp2_with fail;refine(HLG 20 1 _ _ _ w6 C6.q (kG C6.hB C6.le) (Mg.sight C6 0 rfl)).mono ?_;rw [hY,hXY];clear hY hXY;rintro e w8 hp8;obtain⟨rfl,cv8,nv8,vv8,C8⟩:=Mg.done C6 hp8;clear hp8 C6;go_wp2_with fail;go_end0;exact Mg.fin C8.out
  ·have h11b:(o == 11)=false:=kA.2 h11;have h12b:(o == 12)=false:=kA.2 h12;rw [kC h11,kC h12] at HX;have q0:=zF (C6.b 0 rfl);go_wp2_with fail;refine(Mg.eachE C6 0 rfl HEA HDA HVA ⟨HBD.1,by have:=HT.out;omega⟩).mono ?_;rintro e w9 hp9;obtain⟨rfl,cv9,nv9,vv9,C9⟩:=Mg.done C6 hp9;clear hp9 C6;clear q0;have HB10:Hid (Co.Bd (n+Co.wEs l) (Co.gEs cs cl.fields (g) l)/\n+Co.wEs l<=900000):=zh ⟨Co.zBX cs cl.fields _ _ l HBD.1,by have h9:=HT.out;omega⟩;clear HBD;have q0:=zF (C9.b 0 rfl);go_wp2_with fail;refine(zAO C9.q (kG C9.hB C9.le) HB10 (16) (o) (0) (2) (1) ⟨by omega,by omega⟩ ⟨by omega,by omega⟩).mono ?_;rintro e w11 hp11;obtain⟨rfl,cv11,nv11,vv11,C11⟩:=Mg.done C9 hp11;clear hp11 C9;clear q0;have HB12:Hid (Co.Bd (n+Co.wEs l+2+1) (Co.emit (Co.gEs cs cl.fields (g) l) (16) (o) (0) (2) (1))/\n+Co.wEs l+2+1<=900000):=zh ⟨HB10.1.em (m:=2) ⟨by omega,by omega⟩ ⟨by omega,by omega⟩,by have h9:=HT.out;omega⟩;clear HB10;go_wp2_with fail;go_end0;have h9:=Mg.fin C11.out;rw [HX.out] at h9;exact h9
end Cw
end Go.Proofs.YtcnmfcgmnkncaaaGreatDoor
