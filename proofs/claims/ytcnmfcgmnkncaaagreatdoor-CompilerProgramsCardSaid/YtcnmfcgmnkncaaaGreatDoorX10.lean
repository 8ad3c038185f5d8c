/-
  CoJump, CoExprS, CoWord.
-/
import Derived.Test.YtcnmfcgmnkncaaaGreatDoorX9
import Derived.Laws.Bits64b
set_option maxRecDepth 100000
set_option maxHeartbeats 40000000
open Go.Proofs.Tryz
namespace Go.Proofs.YtcnmfcgmnkncaaaGreatDoor
section
namespace Cw
open Go.RowKit Go.Maps Pw
theorem zFW (L:Int):∀(l:List Co.Ins) (i:Nat),i<l.length->(flatV iCells l).set (i*3+1) (.int .i64 L)=flatV iCells (l.modify i fun x=>(x.1,L,x.2.2))
 | [],i,h=>by simp at h
 |x::r,0,_=>by
  rw [flatV_cons]
  show _=flatV iCells ((x.1,L,x.2.2)::r)
  rw [flatV_cons]
  rfl
 |x::r,i+1,h=>by
  have ih:=zFW L r i (by simpa using h)
  show _=flatV iCells (x::r.modify i _)
  rw [flatV_cons,flatV_cons,<-ih];have e:(i+1)*3+1=(i*3+1)+3:=(by omega);rw [e]
  rfl
theorem GS.patch {B0 gb:Nat} {cs:List Tr.C} {cl:Tr.C} {pv fv mv:Value} {g:Co.G} {cv nv vv:Value} {W:World} (h:GS B0 gb cs cl pv fv mv g cv nv vv W) {i:Nat} (hi:i<g.code.length) {cb cap:Nat} (hcv:cv= .slice (some ⟨cb,0,none⟩) g.code.length cap):
 (GS B0 gb cs cl pv fv mv (Co.patch g i) cv nv vv (W.setCell ⟨cb,i*3+1,none⟩ (.int .i64 g.code.length))/\Gr W (owl gb cv nv vv) (W.setCell ⟨cb,i*3+1,none⟩ (.int .i64 g.code.length)) (owl gb cv nv vv))/\cb<W.heap.size/\(∃u,W.cell? ⟨cb,i*3+1,none⟩=some u)/\W.frozen? ⟨cb,i*3+1,none⟩=false:=by
 have hown:cv.ownBlock=some cb:=by rw [hcv];rfl
 have hg:=zW W cb (i*3+1) (.int .i64 g.code.length);obtain⟨⟨d1,d2,d3⟩,d4,d5⟩:=zB3.1 h.nd;have ho:∀q,q≠cb->q<W.heap.size->(W.setCell ⟨cb,i*3+1,none⟩ (.int .i64 g.code.length)).heap[q]? =W.heap[q]?:=fun q hq hlt=>hg.block q hlt (ne_sm hq)
 have hcb:=(zAE h.code hown).1;rcases h.code.2 with ⟨e,_⟩|⟨b,cap',cur,e,hb,hblk,hn,hm,hcs,ht⟩
 ·rw [hcv] at e;cases e
 ·rw [hcv] at e;injection e with e1 e2 e3
  injection e1 with e1
  injection e1 with e1
  subst e1;subst e3;have hsz:i*3+1<cur.size:=by rw [hcs];omega
  refine⟨⟨⟨(ho gb (fun e=>d1 (e▸hown)) (lt_of_block h.blk)).trans h.blk,?_,?_,?_,h.nd,h.ge,h.ns,h.vs,h.pc.inc (zCF hg.size (fun b hb h0=>ho b (by omega) hb)),h.fc.inc (zCF hg.size (fun b hb h0=>ho b (by omega) hb))⟩,Gr.by hg (zZ.2 (.inr (.inl hown)))⟩,lt_of_block hblk,⟨cur[i*3+1],zB hblk (Array.getElem?_eq_getElem hsz)⟩,zP hblk _⟩
  ·have hlen:(Co.patch g i).code.length=g.code.length:=Co.zC8 g i;refine⟨by rw [hlen,<-h.code.1];show(flatV iCells (g.code.modify i fun x=>(x.1,(g.code.length:Int),x.2.2))).length=_;rw [<-zFW _ _ _ hi,List.length_set],.inr ⟨cb,cap,cur.setIfInBounds (i*3+1) (.int .i64 g.code.length),by rw [hcv,hlen],hb,Pw.heap_set (j:=i*3+1) _ hblk,by rw [hlen];exact hn,hm,by rw [Array.size_setIfInBounds];exact hcs,?_⟩⟩
   show _=flatV iCells (g.code.modify i fun x=>(x.1,(g.code.length:Int),x.2.2))
   rw [<-zFW _ _ _ hi,<-ht,hlen,Array.toList_setIfInBounds,List.take_set]
  ·exact zAP h.names (fun q hq=>ho q (fun e=>(d4 cb hown).1 (e▸hq)) (zAE h.names hq).2)
  ·exact zAP h.vars (fun q hq=>ho q (fun e=>(d4 cb hown).2 (e▸hq)) (zAE h.vars hq).2)
theorem Mz.callB {B0 V:Nat} {w W W':World} {o0 ow ow':List Nat} {Q Q':World->Prop} {bs nb:List Bk} {os:List (World->Prop)} (h:Mz B0 V w o0 Q ow bs os W) (hg:Gr W ow W' ow') (ho:∀b∈ow',b<W'.heap.size/\B0<=b) (hq:Q' W') (pk:∀ {U U':World},U.heap.size<=U'.heap.size->(∀b,b<U.heap.size->(b∈ow'\/b<B0)->U'.heap[b]? =U.heap[b]?)->Q' U->Q' U')
 (hn:∀x∈nb,W'.heap[x.1]? =some (.cells x.2.1 x.2.2 (0,0))/\W.heap.size<=x.1/\x.1∉ow') (hnd:(nb.map Prod.fst).Nodup):Mz B0 V w o0 Q' ow' (nb++bs) os W':=by
 have h1:=h.call hg ho hq pk;refine⟨h1.q,h1.pk,h1.hB,h1.hV,h1.gr,h1.ol,fun x hx=>?_,?_,fun r hr=>⟨(h1.ro r hr).1,(h1.ro r hr).1 _ _ ?_ (h.ro r hr).2⟩⟩
 ·rcases kU.1 hx with hx|hx
  ·exact⟨(hn x hx).1,kG h.le (hn x hx).2.1,(hn x hx).2.2⟩
  ·exact h1.bl x hx
 ·rw [List.map_append,List.nodup_append];refine⟨hnd,h.nd,fun a ha b hb e=>?_⟩;obtain⟨x,hx,rfl⟩:=List.mem_map.1 ha;have:=(h.lts hb).2.1;have:=(hn x hx).2.1;omega
 ·refine⟨by rw [zAW,zAW];exact hg.size,fun b j v hc=>?_⟩;obtain⟨hs,hc⟩:=zQ hc;have hlt:=zAR hc;have hnot:b∉ow++bs.map Prod.fst:=fun hm=>by
   rw [zB9.2 (.inr hm)] at hs;cases hs
  have hvb:V<=b:=by
   rcases Nat.lt_or_ge b V with h2|h2
   ·rw [zB9.2 (.inl h2)] at hs;cases hs
   ·exact h2
  have hn1:b∉ow'++(nb++bs).map Prod.fst:=fun hm=>by
   rcases kU.1 hm with hm|hm
   ·rcases hg.own b hm with h2|h2
    ·exact hnot (kU.2 (.inl h2))
    ·omega
   ·rw [List.map_append] at hm;rcases kU.1 hm with hm|hm
    ·obtain⟨x,hx,rfl⟩:=List.mem_map.1 hm;have:=(hn x hx).2.1;omega
    ·exact hnot (kU.2 (.inr hm))
  rw [zBB (zCE hvb hn1)];have hb:=hg.keep b hlt (fun hm=>hnot (kU.2 (.inl hm)));unfold World.cell? at hc |-;rw [hb];exact hc
def labV (X A:Nat):Value:= .func (.func 172) #[] #[.pointer (some ⟨X,0,none⟩),.pointer (some ⟨A,0,none⟩)]
def JQ (B0 gb:Nat) (cs:List Tr.C) (cl:Tr.C) (pv fv mv:Value) (g':Co.G) (k:Nat) (cv nv vv:Value) (w:World) (e:Ending) (w':World):Prop:=
 ∃X A cv' nv' vv',e= .returned (labV X A)/\GS B0 gb cs cl pv fv mv g' cv' nv' vv' w'/\Gr w (owl gb cv nv vv) w' (owl gb cv' nv' vv')/\
  w'.heap[X]? =some (.cells #[.pointer (some ⟨gb,0,none⟩)] 101 (0,0))/\w'.heap[A]? =some (.cells #[.int .i64 k] 3 (0,0))/\w.heap.size<=X/\w.heap.size<=A/\X∉owl gb cv' nv' vv'/\A∉owl gb cv' nv' vv'/\A≠X
theorem Mg.jumped {B0 gb:Nat} {cs:List Tr.C} {cl:Tr.C} {pv fv mv:Value} {g g':Co.G} {cv nv vv:Value} {w W W':World} {o0:List Nat} {bs:List Bk} {os:List (World->Prop)} {k:Nat} (h:Mg B0 gb cs cl pv fv mv w o0 g cv nv vv bs os W) {e:Ending} (hp:JQ B0 gb cs cl pv fv mv g' k cv nv vv W e W'):
 ∃X A cv' nv' vv',e= .returned (labV X A)/\Hid (Mg B0 gb cs cl pv fv mv w o0 g' cv' nv' vv' ((A,#[.int .i64 k],3)::(X,#[.pointer (some ⟨gb,0,none⟩)],101)::bs) os W'):=by
 obtain⟨X,A,c,n,v,he,h1,h2,h3,h4,h5,h6,h7,h8,h9⟩:=hp;refine⟨X,A,c,n,v,he,zh (Mz.callB (nb:= [(A,#[.int .i64 k],3),(X,#[.pointer (some ⟨gb,0,none⟩)],101)]) h h2 h1.ol h1 (fun hs hk hq=>hq.keep hs hk) (fun x hx=>?_) ?_)⟩
 ·simp only [kV,List.not_mem_nil,or_false] at hx;rcases hx with rfl|rfl
  ·exact⟨h4,h6,h8⟩
  ·exact⟨h3,h5,h7⟩
 ·simp [h9]
theorem zC9 {B0 gb:Nat} {cs:List Tr.C} {cl:Tr.C} {pv fv mv:Value} {g:Co.G} {cv nv vv:Value} {w:World} (h:GS B0 gb cs cl pv fv mv g cv nv vv w) {n:Nat} (hbd:Co.Bd n g/\n<=900000) {k:Nat} (hk:k<g.code.length) {X A:Nat} (hX:w.heap[X]? =some (.cells #[.pointer (some ⟨gb,0,none⟩)] 101 (0,0))) (hA:w.heap[A]? =some (.cells #[.int .i64 k] 3 (0,0))) (hXo:X∉owl gb cv nv vv) (hAo:A∉owl gb cv nv vv):
 Calls prog 172 #[.pointer (some ⟨X,0,none⟩),.pointer (some ⟨A,0,none⟩)] w (GQ B0 gb cs cl pv fv mv (Co.patch g k) cv nv vv w):=by
 have hB:B0<=w.heap.size:=by have h9:=h.ol gb (zZ.2 (.inl rfl));omega
 obtain⟨wd,HWD,CD⟩:=(Mg.start (os:= []) h hB (fun _ h=>by cases h)).drewE;have hdh:wd.heap=w.heap:=by rw [HWD.out];rfl
 have hXd:=hX;have hAd:=hA;rw [<-hdh] at hXd hAd;clear hdh;clear hX hA;have h:=CD.q;have HGR:=zh CD.gr;have hX:=hXd;have hA:=hAd;obtain⟨cb,cap,hcv⟩:∃cb cap,cv= .slice (some ⟨cb,0,none⟩) g.code.length cap:=by
  rcases h.code.2 with ⟨_,e⟩|⟨b,cap,_,e,_⟩
  ·omega
  ·exact⟨b,cap,e⟩
 obtain⟨⟨h1,h2⟩,hlt,⟨u,hu⟩,hfr⟩:=h.patch hk hcv;have hXc:=zB hX (j:=0) (u:= .pointer (some ⟨gb,0,none⟩)) rfl;have hAc:=zB hA (j:=0) (u:= .int .i64 k) rfl;have hgc:=zA0 h (j:=5) (u:=cv) rfl;have hown:cv.ownBlock=some cb:=by rw [hcv];rfl
 have hXn:X≠cb:=fun e=>hXo (zZ.2 (.inr (.inl (e▸hown))))
 have hAn:A≠cb:=fun e=>hAo (zZ.2 (.inr (.inl (e▸hown))))
 have hgn:gb≠cb:=fun e=>(zB3.1 h.nd).1.1 (e▸hown)
 have hgl:=lt_of_block h.blk;have hNb:=hbd.1.code;have hN9:=hbd.2;rw [hcv] at hgc;obtain⟨N,hN⟩:∃q,g.code.length=q:=⟨_,rfl⟩;rw [hN] at hgc hk h1 h2 hNb;have H1:=zh h1;have H2:=zh h2;have HXN:=zh hXn;have HAN:=zh hAn;have HGN:=zh hgn;have b1:(0:Int)<=(k:Int):=by omega
 have b2:(k:Int)<(N:Int):=by omega
 clear h hX hA hXd hAd hXo hAo hbd hcv hown hXn hAn hgn h1 h2 hN hB CD;go_in;go_upto_region 0 with fail;refine wp_region_held_drew (S:=fun W=>W.cell? ⟨X,0,none⟩=some (.pointer (some ⟨gb,0,none⟩))/\W.cell? ⟨A,0,none⟩=some (.int .i64 k)/\W.cell? ⟨gb,5,none⟩=some (.slice (some ⟨cb,0,none⟩) N cap)) (by kernel_rfl) (by rw [<-HWD.out];exact⟨hXc,hAc,hgc⟩) (fun hH=>?_);rw [<-HWD.out] at hH |-;clear HWD;refine rU 0 (some 2) ?_;refine rU 1 (some 3) ?_;refine rU 2 (some 4) ?_;refine rU 3 (some 5) ?_;refine rU 4 (some 6) ?_;refine rU 5 (some 7) ?_;refine rU 6 (some 8) ?_;refine rU 7 (some 9) ?_;refine rU 8 (some 10) ?_;refine rR1 9 (some 11) (fun K hK=>?_);go_simp;refine hK _ _ hH (fun hH=>?_);clear hK K
 try simp only [Act.put,q0,q1,q2]
 refine rU 10 (some 12) ?_;refine rU 11 (some 13) ?_;refine rR1 12 none (fun K hK=>?_);go_simp;refine hK _ _ ?_ (fun _=>?_)
 ·exact⟨by rw [zBC HXN.out];exact hH.1,by rw [zBC HAN.out];exact hH.2.1,by rw [zBC HGN.out];exact hH.2.2⟩
 clear hK K
 try simp only [Act.put,q0,q1,q2]
 refine wpAnyH_done (by kernel_rfl) ?_ _;go_wp2_with fail;go_end0;exact⟨rfl,_,_,_,H1,HGR.trans H2⟩
theorem zFS {B0 gb:Nat} {cs:List Tr.C} {cl:Tr.C} {pv fv mv:Value} {g:Co.G} {cv nv vv:Value} {w:World} (h:GS B0 gb cs cl pv fv mv g cv nv vv w) (hB:B0<=w.heap.size) {n:Nat} (hbd:Co.Bd n g/\n<=900000) (op p:Int) (hp:0<=p/\p<=1000000):
 Calls prog 137 #[.pointer (some ⟨gb,0,none⟩),.int .i64 op,.int .i64 p] w (JQ B0 gb cs cl pv fv mv (Co.emit g op 0 0 p 0) g.code.length cv nv vv w):=by
 have HBD:=zh hbd;have HP:=zh hp;have C0:=zh (Mg.start (os:= []) h hB (fun _ h=>by cases h));clear h hB hbd hp;obtain⟨pc,cc,hcv⟩:=own_form C0.q.code;have HCV:=zh hcv;clear hcv;obtain⟨N,hN⟩:∃q,g.code.length=q:=⟨_,rfl⟩;rw [hN] at HCV;have HN:=zh hN;clear hN;obtain⟨X,w1,HX1,HW1,hx1,C1⟩:=C0.boxE #[.pointer (some ⟨gb,0,none⟩)] 101;go_in;go_upto_region 1 with fail;rw [<-HX1.out,<-HW1.out];clear HX1 HW1 C0;have gl:=lt_of_block C1.q.blk;have g5:=zA0 C1.q (j:=5) rfl;have gf5:=gfree C1.q 5;have q0:=zS (C1.b 0 rfl);rw [HCV.out] at g5;obtain⟨A,w2,HX,HW,hx2,C2⟩:=C1.boxE #[.int .i64 N] 3;go_upto_region 2 with fail;rw [<-HX.out,<-HW.out];clear HX HW C1;clear gl g5 gf5 q0;have q1:=zS (C2.b 1 rfl);go_wp2_with fail;refine(zAO C2.q (kG C2.hB C2.le) HBD op 0 0 p 0 HP ⟨by decide,by decide⟩).mono ?_;rintro e w9 hp9;obtain⟨rfl,c9,n9,v9,C9⟩:=Mg.done C2 hp9;clear hp9 C2 q1;go_wp2;go_ret;rw [HN.out];exact⟨X,A,c9,n9,v9,rfl,C9.q,C9.gr,C9.b 1 rfl,C9.b 0 rfl,(C9.lt 1 rfl).1,(C9.lt 0 rfl).1,(C9.lts (q:=X) (by simp)).2.2,(C9.lts (q:=A) (by simp)).2.2,fun e=>by have h9:=C9.nd;simp [e] at h9⟩
theorem zSA {I:Nat->World->Prop} (l:List Tr.E) {v:Value} {w:World} {PP:Nat} (hl:l.length<=1000000) (h0:I 0 w) (hv:∃p c,v= .slice p l.length c)
 (hc:∀j x W,l[j]? =some x->I j W->∃f:Nat->Bool,SlE (hide f W) v l/\∀a W',BdE x->Below W.heap.size W W'->SlE (hide f W) a x.args->Calls prog 132 #[.pointer (some ⟨PP,0,none⟩),zK x a] W' (fun e W''=>e= .returned (.tuple #[])/\I (j+1) W'')):
 Calls prog 130 #[v,.func (.func 132) #[.pointer (some ⟨PP,0,none⟩)] #[]] w (fun e w'=>e= .returned (.tuple #[])/\I l.length w'):=by
 obtain⟨p,c,rfl⟩:=hv;obtain⟨N,hN⟩:∃q,l.length=q:=⟨_,rfl⟩;rw [hN] at hc hl |-;have HN:=zh hN;have HC:=zh hc;have H0:=zh h0;clear hN hc h0;go_in;go_wp2
 go_loopg [8] N (fun gg s8 wr=>∃j:Nat,s8= .int .i64 j/\j<=N/\gg=N -j/\Hid (I j wr))
 case atStart=>exact ⟨0,rfl,kO _,rfl,H0⟩
 case round=>
  clear H0;obtain⟨j,rfl,hj,rfl,HI⟩:=hrel;by_cases hlt:j<N
  ·obtain⟨x,hx⟩:∃x,l[j]? =some x:=⟨_,kB (by rw [HN.out];exact hlt)⟩;obtain⟨f,hs,hcall⟩:=HC j x wr hx HI;obtain⟨b,oo,aa,rfl,hblt,⟨x0,x1,x2,x3,x4,x5⟩,hbdx,hsl⟩:=hs.get hx;replace x0:=(zQ x0).2;replace x1:=(zQ x1).2;replace x2:=(zQ x2).2;replace x3:=(zQ x3).2;replace x4:=(zQ x4).2;replace x5:=(zQ x5).2;obtain⟨pa,ca,rfl,_⟩:=hsl.form;obtain⟨AX,hAX⟩:∃N,x.args.length=N:=⟨_,rfl⟩;rw [hAX] at x5;have b3j:(j:Int)<(N:Int):=(by omega);have b0j:(0:Int)<=(j:Int):=(by omega);obtain⟨w4,HW4⟩:∃q,Hid (q=wr.alloc (.cells #[.int .i64 x.kind,.int .i64 x.op,.int .i64 x.int,.string x.name,.bool x.at_,.slice pa AX ca] 37)):=⟨_,zh rfl⟩;have hb4:Below wr.heap.size wr w4:=by rw [HW4.out];exact zD _ _
   have KC:=zh (hcall (.slice pa AX ca) w4 hbdx hb4 (by rw [hAX] at hsl;exact hsl));unfold zK at KC;clear hx hbdx hsl hAX hb4 HI hcall hs;go_wp2_with fail;rw [<-HW4.out];clear HW4;refine KC.mono ?_;rintro e w5 ⟨rfl,hi5⟩;have HI5:=zh hi5;clear hi5 KC x0 x1 x2 x3 x4 x5;go_wp2;go_roundg (N -(j+1))
   case measure=>omega
   case rel=>exact ⟨j+1,by go_num,by omega,rfl,HI5⟩
  ·obtain rfl:j=N:=by omega
   go_wp2_with fail;go_end0;exact⟨rfl,HI⟩
theorem zR8 {I:Nat->World->Prop} (l:List Tr.E) {v:Value} {w:World} {PP:Nat} (hl:l.length<=1000000) (h0:I 0 w) (hv:∃p c,v= .slice p l.length c)
 (hc:∀j x W,l[j]? =some x->I j W->∃f:Nat->Bool,SlE (hide f W) v l/\∀a W',BdE x->Below W.heap.size W W'->SlE (hide f W) a x.args->Calls prog 131 #[zK x a,.pointer (some ⟨PP,0,none⟩)] W' (fun e W''=>e= .returned (.tuple #[])/\I (j+1) W'')):
 Calls prog 130 #[v,.func (.func 131) #[] #[.pointer (some ⟨PP,0,none⟩)]] w (fun e w'=>e= .returned (.tuple #[])/\I l.length w'):=by
 obtain⟨p,c,rfl⟩:=hv;obtain⟨N,hN⟩:∃q,l.length=q:=⟨_,rfl⟩;rw [hN] at hc hl |-;have HN:=zh hN;have HC:=zh hc;have H0:=zh h0;clear hN hc h0;go_in;go_wp2
 go_loopg [8] N (fun gg s8 wr=>∃j:Nat,s8= .int .i64 j/\j<=N/\gg=N -j/\Hid (I j wr))
 case atStart=>exact ⟨0,rfl,kO _,rfl,H0⟩
 case round=>
  clear H0;obtain⟨j,rfl,hj,rfl,HI⟩:=hrel;by_cases hlt:j<N
  ·obtain⟨x,hx⟩:∃x,l[j]? =some x:=⟨_,kB (by rw [HN.out];exact hlt)⟩;obtain⟨f,hs,hcall⟩:=HC j x wr hx HI;obtain⟨b,oo,aa,rfl,hblt,⟨x0,x1,x2,x3,x4,x5⟩,hbdx,hsl⟩:=hs.get hx;replace x0:=(zQ x0).2;replace x1:=(zQ x1).2;replace x2:=(zQ x2).2;replace x3:=(zQ x3).2;replace x4:=(zQ x4).2;replace x5:=(zQ x5).2;obtain⟨pa,ca,rfl,_⟩:=hsl.form;obtain⟨AX,hAX⟩:∃N,x.args.length=N:=⟨_,rfl⟩;rw [hAX] at x5;have b3j:(j:Int)<(N:Int):=(by omega);have b0j:(0:Int)<=(j:Int):=(by omega);obtain⟨w4,HW4⟩:∃q,Hid (q=wr.alloc (.cells #[.int .i64 x.kind,.int .i64 x.op,.int .i64 x.int,.string x.name,.bool x.at_,.slice pa AX ca] 37)):=⟨_,zh rfl⟩;have hb4:Below wr.heap.size wr w4:=by rw [HW4.out];exact zD _ _
   have KC:=zh (hcall (.slice pa AX ca) w4 hbdx hb4 (by rw [hAX] at hsl;exact hsl));unfold zK at KC;clear hx hbdx hsl hAX hb4 HI hcall hs;go_wp2_with fail;rw [<-HW4.out];clear HW4;refine KC.mono ?_;rintro e w5 ⟨rfl,hi5⟩;have HI5:=zh hi5;clear hi5 KC x0 x1 x2 x3 x4 x5;go_wp2;go_roundg (N -(j+1))
   case measure=>omega
   case rel=>exact ⟨j+1,by go_num,by omega,rfl,HI5⟩
  ·obtain rfl:j=N:=by omega
   go_wp2_with fail;go_end0;exact⟨rfl,HI⟩
theorem zJY:∀l:List Tr.E,l.length<=Co.wEs l
 | []=>kO _
 |e::r=>by rw [Co.wEs,kI];have:=zJY r;have:=Co.zUE e;omega
theorem zJX:∀ {l:List Tr.E} {j:Nat} {x:Tr.E},l[j]? =some x->Co.wEs (l.take j)+Co.wE x<=Co.wEs l
 | [],j,x,h=>by simp at h
 |y::r,0,x,h=>by cases h;rw [List.take_zero,Co.wEs,Co.wEs];omega
 |y::r,j+1,x,h=>by
  rw [List.take_succ_cons,Co.wEs,Co.wEs];have:=zJX (l:=r) (j:=j) (x:=x) (by simpa using h);omega
theorem zM8 (cs:List Tr.C) (fs:List BA):∀(l:List Tr.E) (g:Co.G) (x:Tr.E),Co.gEs cs fs g (l++ [x])=Co.gE cs fs (Co.gEs cs fs g l) x
 | [],g,x=>by rw [List.nil_append,Co.gEs,Co.gEs,Co.gEs]
 |y::r,g,x=>by rw [List.cons_append,Co.gEs,Co.gEs,zM8 cs fs r]
def EC (B0 gb:Nat) (cs:List Tr.C) (cl:Tr.C) (pv fv mv:Value) (d:Nat):Prop:=∀(e:Tr.E) (g:Co.G) (cv nv vv:Value) (w:World) (a:Value) (n:Nat),e.deep<=d->Tr.zE e=true->BdE e->GS B0 gb cs cl pv fv mv g cv nv vv w->B0<=w.heap.size->(Co.Bd n g/\n+Co.wE e<=900000)->SlE (hide (upL 0 (owl gb cv nv vv)) w) a e.args->
    Calls prog 132 #[.pointer (some ⟨gb,0,none⟩),zK e a] w (GQ B0 gb cs cl pv fv mv (Co.gE cs cl.fields g e) cv nv vv w)
theorem EC.less {B0 gb:Nat} {cs:List Tr.C} {cl:Tr.C} {pv fv mv:Value} {d d':Nat} (h:EC B0 gb cs cl pv fv mv d) (hd:d'<=d):EC B0 gb cs cl pv fv mv d':=fun e g cv nv vv w a n h1=>h e g cv nv vv w a n (kG h1 hd)
def RE (a:Value) (l:List Tr.E):World->Prop:=fun W=>SlE W a l
theorem re_mn {a:Value} {l:List Tr.E}:Mn (RE a l):=fun _ _ hi h=>SlE.inc h hi
section
variable {B0 gb:Nat} {cs:List Tr.C} {cl:Tr.C} {pv fv mv:Value} {g:Co.G} {cv nv vv:Value} {w W:World} {o0:List Nat} {bs:List Bk} {os:List (World->Prop)}
theorem Mg.sight (h:Mg B0 gb cs cl pv fv mv w o0 g cv nv vv bs os W) (i:Nat) {a:Value} {l:List Tr.E} (hi:os[i]? =some (RE a l)):SlE (hide (upL 0 (owl gb cv nv vv)) W) a l:=
 SlE.inc (h.o i hi) (zEG (kL _) (fun _ hb=>kU.2 (.inl hb)))
theorem Mg.elem (h:Mg B0 gb cs cl pv fv mv w o0 g cv nv vv bs os W) (i:Nat) {p:Option Addr} {N c:Nat} {l:List Tr.E} (hi:os[i]? =some (RE (.slice p N c) l)) {j:Nat} {x:Tr.E} (hx:l[j]? =some x):
 ∃b oo,p=some ⟨b,oo,none⟩/\b<W.heap.size/\∃pa ca,CellsE W b (oo+j*6) x (.slice pa x.args.length ca)/\BdE x/\SlE (hide (upL 0 (owl gb cv nv vv)) W) (.slice pa x.args.length ca) x.args:=by
 obtain⟨b,oo,aa,hp,hb,hc,hbd,hs⟩:=(h.sight i hi).get hx;obtain⟨pa,ca,rfl,_⟩:=hs.form;rw [zAW] at hb;exact⟨b,oo,hp,hb,pa,ca,⟨(zQ hc.1).2,(zQ hc.2.1).2,(zQ hc.2.2.1).2,(zQ hc.2.2.2.1).2,(zQ hc.2.2.2.2.1).2,(zQ hc.2.2.2.2.2).2⟩,hbd,hs⟩
theorem Mg.elemE (h:Mg B0 gb cs cl pv fv mv w o0 g cv nv vv bs os W) (i:Nat) {b oo N c n d:Nat} {l:List Tr.E} (hi:os[i]? =some (RE (.slice (some ⟨b,oo,none⟩) N c) l)) {j:Nat} {x:Tr.E} (hx:l[j]? =some x) (hE:EC B0 gb cs cl pv fv mv d) (hd:x.deep<=d) (hv:Tr.zE x=true) (hn:Co.Bd n g/\n+Co.wE x<=900000):
 b<W.heap.size/\∃pa ca,CellsE W b (oo+j*6) x (.slice pa x.args.length ca)/\Calls prog 132 #[.pointer (some ⟨gb,0,none⟩),zK x (.slice pa x.args.length ca)] W (GQ B0 gb cs cl pv fv mv (Co.gE cs cl.fields g x) cv nv vv W):=by
 obtain⟨b',oo',hp,hb,pa,ca,hc,hbd,hs⟩:=h.elem i hi hx;cases hp;exact⟨hb,pa,ca,hc,hE x g cv nv vv W _ n hd hv hbd h.q (kG h.hB h.le) hn hs⟩
theorem Mg.eachE (h:Mg B0 gb cs cl pv fv mv w o0 g cv nv vv bs os W) (i:Nat) {v:Value} {n d:Nat} {l:List Tr.E} (hi:os[i]? =some (RE v l)) (hE:EC B0 gb cs cl pv fv mv d) (hd:∀(j:Nat) (x:Tr.E),l[j]? =some x->x.deep<=d) (hv:Tr.zT l=true) (hn:Co.Bd n g/\n+Co.wEs l<=900000):
 Calls prog 130 #[v,.func (.func 132) #[.pointer (some ⟨gb,0,none⟩)] #[]] W (GQ B0 gb cs cl pv fv mv (Co.gEs cs cl.fields g l) cv nv vv W):=by
 have hI:=zSA (PP:=gb) (I:=fun j W'=>∃cv' nv' vv',Mg B0 gb cs cl pv fv mv W (owl gb cv nv vv) (Co.gEs cs cl.fields g (l.take j)) cv' nv' vv' [] [RE v l] W') l (v:=v) (w:=W) ?_ ?_ ?_ ?_
 ·refine hI.mono ?_;rintro e w' ⟨rfl,c,m,u,hm⟩;rw [kR (kL _)] at hm;exact Mg.fin hm
 ·exact kG (kG (zJY l) (kG (Nat.le_add_left _ n) hn.2)) (by decide)
 ·refine⟨cv,nv,vv,?_⟩;rw [List.take_zero,Co.gEs];exact Mg.start h.q (kG h.hB h.le) (fun r hr=>by rw [kT.1 hr];exact⟨re_mn,h.sight i hi⟩)
 ·obtain⟨p,c,e,_⟩:=(h.sight i hi).form;exact⟨p,c,e⟩
 ·rintro j x W1 hx ⟨c,m,u,hm⟩;refine⟨_,hm.sight 0 rfl,fun a W2 hbd hb hs=>?_⟩;have hm2:=hm.below hb;have hs2:SlE (hide (upL 0 (owl gb c m u)) W2) a x.args:=SlE.inc hs (by have h8:=(Gr.below hb (owl gb c m u)).inc [] (V:=0);rw [List.append_nil] at h8;exact h8);have hbt:=Co.zBX cs cl.fields n g (l.take j) hn.1;have hwt:Co.wEs (l.take j)+Co.wE x<=Co.wEs l:=zJX hx;refine(hE x _ c m u W2 a (n+Co.wEs (l.take j)) (hd j x hx) (zH hv hx) hbd hm2.q (kG hm2.hB hm2.le) ⟨hbt,by omega⟩ hs2).mono ?_;rintro e w' hp;obtain⟨rfl,c',m',u',hm3⟩:=Mg.done hm2 hp;refine⟨rfl,c',m',u',?_⟩;have e1:l.take (j+1)=l.take j++ [x]:=by rw [List.take_add_one,hx];rfl
  rw [e1,zM8];exact hm3
end
theorem zQ6 {B0 gb:Nat} {cs:List Tr.C} {cl:Tr.C} {pv fv mv:Value} {g:Co.G} {cv nv vv:Value} {w:World} {d:Nat} (hE:EC B0 gb cs cl pv fv mv d) (e:Tr.E) (hk:e.kind=10) (hd:e.deep<=d+1) (hv:Tr.zE e=true) (h:GS B0 gb cs cl pv fv mv g cv nv vv w) (hB:B0<=w.heap.size) {n:Nat} (hbd:Co.Bd n g/\n+Co.wEs e.args+9<=900000) (a:Value) (hS:SlE (hide (upL 0 (owl gb cv nv vv)) w) a e.args) (op endv:Int):
 Calls prog 187 #[.pointer (some ⟨gb,0,none⟩),zK e a,.int .i64 op,.int .i64 endv] w (GQ B0 gb cs cl pv fv mv (Co.gL cs cl.fields g op endv e.args) cv nv vv w):=by
 obtain⟨k,o,i,nm,at_,l⟩:=e;subst hk;have hl2:l.length=2:=by
  have h9:=(Co.zN hv).2;unfold Tr.okE at h9;simp at h9;omega
 obtain⟨x,y,rfl⟩:∃x y,l= [x,y]:=by
  match l,hl2 with
  | [x,y],_=>exact ⟨x,y,rfl⟩
 have hvx:=zH (Co.zN hv).1 (j:=0) (e:=x) rfl;have hvy:=zH (Co.zN hv).1 (j:=1) (e:=y) rfl;have hdx:=Tr.E.deep_args hd (j:=0) (x:=x) rfl;have hdy:=Tr.E.deep_args hd (j:=1) (x:=y) rfl;have HT:Hid (n+(Co.wE x+Co.wE y)+9<=900000):=zh (by have h9:=hbd.2;change n+Co.wEs [x,y]+9<=900000 at h9;rw [Co.wEs,Co.wEs,Co.wEs] at h9;omega);have HEC:=zh hE;have HVX:=zh hvx;have HVY:=zh hvy;have HDX:=zh hdx;have HDY:=zh hdy;have HBD:Hid (Co.Bd n g/\n<=900000):=zh ⟨hbd.1,by have:=hbd.2;omega⟩;obtain⟨p,c,rfl,_⟩:=SlE.form hS;have HS:Hid (SlE (hide (upL 0 (owl gb cv nv vv)) w) (.slice p 2 c) [x,y]):=zh hS;obtain⟨b,oo,rfl⟩:∃b oo,p=some ⟨b,oo,none⟩:=by
  obtain⟨b,oo,_,e,_⟩:=SlE.get hS (j:=0) (e:=x) rfl;exact⟨b,oo,e⟩
 have C0:=zh (Mg.start (os:= [RE (.slice (some ⟨b,oo,none⟩) 2 c) [x,y]]) h hB (fun r hr=>by rw [kT.1 hr];exact⟨re_mn,HS⟩));clear hd hvx hvy hdx hdy hbd hE hS HS h hB hv hl2;obtain⟨X,hX⟩:∃q,Co.gL cs cl.fields g op endv [x,y]=q:=⟨_,rfl⟩;unfold zK;simp only [Tr.E.kind,Tr.E.op,Tr.E.int,Tr.E.name,Tr.E.at_,Tr.E.args];rw [hX];have HX:Hid (Co.patch (Co.emit (Co.patch ({ Co.emit (Co.emit (Co.gE cs cl.fields (Co.emit (Co.gE cs cl.fields g x) op 0 0 1 0) y) 17 0 0 1 1) 18 0 0 0 0 with depth:=(Co.emit (Co.emit (Co.gE cs cl.fields (Co.emit (Co.gE cs cl.fields g x) op 0 0 1 0) y) 17 0 0 1 1) 18 0 0 0 0).depth -1 }) (Co.gE cs cl.fields g x).code.length) 0 endv 0 0 1) (Co.emit (Co.gE cs cl.fields (Co.emit (Co.gE cs cl.fields g x) op 0 0 1 0) y) 17 0 0 1 1).code.length=X):=zh (by rw [<-hX,Co.gL,Co.gEs,Co.gEs]);clear hX;obtain⟨E,w1,HX1,HW1,hx1,C1⟩:=C0.boxE #[.int .i64 10,.int .i64 o,.int .i64 i,.string nm,.bool at_,.slice (some ⟨b,oo,none⟩) 2 c] 37;go_in;go_upto_region 1 with fail;rw [<-HX1.out,<-HW1.out];clear HX1 HW1 C0;obtain⟨hlx,pax,cax,⟨zx_0,zx_1,zx_2,zx_3,zx_4,zx_5⟩,hKx⟩:=Mg.elemE C1 0 rfl (j:=0) (x:=x) rfl HEC HDX HVX ⟨HBD.1,by have h9:=HT.out;omega⟩;obtain⟨ANx,hANx⟩:∃q,x.args.length=q:=⟨_,rfl⟩;rw [hANx] at hKx zx_5;unfold zK at hKx;simp only [Nat.zero_mul,Nat.add_zero] at zx_0 zx_1 zx_2 zx_3 zx_4 zx_5;have HKx:=zh hKx;clear hANx hKx;have q0:=zF (C1.b 0 rfl);go_wp2_with fail;refine HKx.mono ?_;rintro e w2 hp2;obtain⟨rfl,cv2,nv2,vv2,C2⟩:=Mg.done C1 hp2;clear hp2 C1;clear HKx hlx zx_0 zx_1 zx_2 zx_3 zx_4 zx_5 q0;have HB3:Hid (Co.Bd (n+Co.wE x) (Co.gE cs cl.fields (g) x)/\n+Co.wE x<=900000):=zh ⟨Co.gE_bd cs cl.fields _ _ x HBD.1,by have h9:=HT.out;omega⟩;clear HBD;go_wp2_with fail;refine(zFS C2.q (kG C2.hB C2.le) HB3 (op) (1) ⟨by omega,by omega⟩).mono ?_;rintro e w4 hp4;obtain⟨X1,A1,cv4,nv4,vv4,rfl,C4⟩:=Mg.jumped C2 hp4;clear hp4 C2;unfold labV;have HB5:Hid (Co.Bd (n+Co.wE x+1+1) (Co.emit (Co.gE cs cl.fields (g) x) (op) 0 0 (1) 0)/\n+Co.wE x+1+1<=900000):=zh ⟨HB3.1.em (m:=1) ⟨by omega,by omega⟩ ⟨by omega,by omega⟩,by have h9:=HT.out;omega⟩;clear HB3;obtain⟨hly,pay,cay,⟨zy_0,zy_1,zy_2,zy_3,zy_4,zy_5⟩,hKy⟩:=Mg.elemE C4 0 rfl (j:=1) (x:=y) rfl HEC HDY HVY ⟨HB5.1,by have h9:=HT.out;omega⟩;obtain⟨ANy,hANy⟩:∃q,y.args.length=q:=⟨_,rfl⟩;rw [hANy] at hKy zy_5;unfold zK at hKy;simp only [Nat.one_mul] at zy_0 zy_1 zy_2 zy_3 zy_4 zy_5;have HKy:=zh hKy;clear hANy hKy;have q2:=zF (C4.b 2 rfl);go_wp2_with fail;refine HKy.mono ?_;rintro e w6 hp6;obtain⟨rfl,cv6,nv6,vv6,C6⟩:=Mg.done C4 hp6;clear hp6 C4;clear HKy hly zy_0 zy_1 zy_2 zy_3 zy_4 zy_5 q2;have HB7:Hid (Co.Bd (n+Co.wE x+1+1+Co.wE y) (Co.gE cs cl.fields (Co.emit (Co.gE cs cl.fields (g) x) (op) 0 0 (1) 0) y)/\n+Co.wE x+1+1+Co.wE y<=900000):=zh ⟨Co.gE_bd cs cl.fields _ _ y HB5.1,by have h9:=HT.out;omega⟩;clear HB5;go_wp2_with fail;refine(zAO C6.q (kG C6.hB C6.le) HB7 (17) (0) (0) (1) (1) ⟨by omega,by omega⟩ ⟨by omega,by omega⟩).mono ?_;rintro e w8 hp8;obtain⟨rfl,cv8,nv8,vv8,C8⟩:=Mg.done C6 hp8;clear hp8 C6;have HB9:Hid (Co.Bd (n+Co.wE x+1+1+Co.wE y+1+1) (Co.emit (Co.gE cs cl.fields (Co.emit (Co.gE cs cl.fields (g) x) (op) 0 0 (1) 0) y) (17) (0) (0) (1) (1))/\n+Co.wE x+1+1+Co.wE y+1+1<=900000):=zh ⟨HB7.1.em (m:=1) ⟨by omega,by omega⟩ ⟨by omega,by omega⟩,by have h9:=HT.out;omega⟩;clear HB7;go_wp2_with fail;refine(zFS C8.q (kG C8.hB C8.le) HB9 (18) (0) ⟨by omega,by omega⟩).mono ?_;rintro e w10 hp10;obtain⟨X2,A2,cv10,nv10,vv10,rfl,C10⟩:=Mg.jumped C8 hp10;clear hp10 C8;unfold labV;have HB11:Hid (Co.Bd (n+Co.wE x+1+1+Co.wE y+1+1+0+1) (Co.emit (Co.emit (Co.gE cs cl.fields (Co.emit (Co.gE cs cl.fields (g) x) (op) 0 0 (1) 0) y) (17) (0) (0) (1) (1)) (18) 0 0 (0) 0)/\n+Co.wE x+1+1+Co.wE y+1+1+0+1<=900000):=zh ⟨HB9.1.em (m:=0) ⟨by omega,by omega⟩ ⟨by omega,by omega⟩,by have h9:=HT.out;omega⟩;clear HB9;have gl:=lt_of_block C10.q.blk;have g9:=zA0 C10.q (j:=9) rfl;have gf9:=gfree C10.q 9;obtain⟨h1,h2⟩:=GS.put C10.q 9 (.int .i64 ((Co.emit (Co.emit (Co.gE cs cl.fields (Co.emit (Co.gE cs cl.fields (g) x) (op) 0 0 (1) 0) y) (17) (0) (0) (1) (1)) (18) 0 0 (0) 0).depth -1)) (g':= { Co.emit (Co.emit (Co.gE cs cl.fields (Co.emit (Co.gE cs cl.fields (g) x) (op) 0 0 (1) 0) y) (17) (0) (0) (1) (1)) (18) 0 0 (0) 0 with depth:=(Co.emit (Co.emit (Co.gE cs cl.fields (Co.emit (Co.gE cs cl.fields (g) x) (op) 0 0 (1) 0) y) (17) (0) (0) (1) (1)) (18) 0 0 (0) 0).depth -1 }) rfl rfl rfl rfl;obtain⟨w12,HW⟩:∃q,Hid (q=w10.setCell ⟨gb,9,none⟩ (.int .i64 ((Co.emit (Co.emit (Co.gE cs cl.fields (Co.emit (Co.gE cs cl.fields (g) x) (op) 0 0 (1) 0) y) (17) (0) (0) (1) (1)) (18) 0 0 (0) 0).depth -1))):=⟨_,zh rfl⟩;have C12:=zh (Mg.move C10 h1 h2);rw [<-HW.out] at C12;clear h1 h2;have hdw:wrap64 ((Co.emit (Co.emit (Co.gE cs cl.fields (Co.emit (Co.gE cs cl.fields (g) x) (op) 0 0 (1) 0) y) (17) (0) (0) (1) (1)) (18) 0 0 (0) 0).depth -1)=(Co.emit (Co.emit (Co.gE cs cl.fields (Co.emit (Co.gE cs cl.fields (g) x) (op) 0 0 (1) 0) y) (17) (0) (0) (1) (1)) (18) 0 0 (0) 0).depth -1:=by have h7:=HB11.1.dep;have h8:=HB11.2;unfold wrap64;omega
 go_upto_region 7 with fail;rw [<-HW.out];clear HW C10 gl g9 gf9;have HB13:Hid (Co.Bd (n+Co.wE x+1+1+Co.wE y+1+1+0+1+1) ({ Co.emit (Co.emit (Co.gE cs cl.fields (Co.emit (Co.gE cs cl.fields (g) x) (op) 0 0 (1) 0) y) (17) (0) (0) (1) (1)) (18) 0 0 (0) 0 with depth:=(Co.emit (Co.emit (Co.gE cs cl.fields (Co.emit (Co.gE cs cl.fields (g) x) (op) 0 0 (1) 0) y) (17) (0) (0) (1) (1)) (18) 0 0 (0) 0).depth -1 })/\n+Co.wE x+1+1+Co.wE y+1+1+0+1+1<=900000):=zh ⟨HB11.1.less,by have h9:=HT.out;omega⟩;clear HB11;clear hdw;have HLY:Hid ((Co.emit (Co.gE cs cl.fields g x) op 0 0 1 0).code.length<=(Co.gE cs cl.fields (Co.emit (Co.gE cs cl.fields g x) op 0 0 1 0) y).code.length):=zh (Co.zKI cs cl.fields _ y).len;go_wp2_with fail;refine(zC9 C12.q HB13 (k:=(Co.gE cs cl.fields g x).code.length) (by have h9:=HLY.out;show _<(Co.emit (Co.emit (Co.gE cs cl.fields (Co.emit (Co.gE cs cl.fields g x) op 0 0 1 0) y) 17 0 0 1 1) 18 0 0 0 0).code.length;rw [Co.zBJ] at h9 |-;rw [Co.zBJ];omega) (C12.b 3 rfl) (C12.b 2 rfl) (C12.lts (q:=X1) (by simp)).2.2 (C12.lts (q:=A1) (by simp)).2.2).mono ?_;rintro e w14 hp14;obtain⟨rfl,cv14,nv14,vv14,C14⟩:=Mg.done C12 hp14;clear hp14 C12;have HB15:Hid (Co.Bd (n+Co.wE x+1+1+Co.wE y+1+1+0+1+1) (Co.patch ({ Co.emit (Co.emit (Co.gE cs cl.fields (Co.emit (Co.gE cs cl.fields (g) x) (op) 0 0 (1) 0) y) (17) (0) (0) (1) (1)) (18) 0 0 (0) 0 with depth:=(Co.emit (Co.emit (Co.gE cs cl.fields (Co.emit (Co.gE cs cl.fields (g) x) (op) 0 0 (1) 0) y) (17) (0) (0) (1) (1)) (18) 0 0 (0) 0).depth -1 }) ((Co.gE cs cl.fields g x).code.length))/\n+Co.wE x+1+1+Co.wE y+1+1+0+1+1<=900000):=zh ⟨HB13.1.patch _,by have h9:=HT.out;omega⟩;clear HB13;go_wp2_with fail;refine(zAO C14.q (kG C14.hB C14.le) HB15 (0) (endv) (0) (0) (1) ⟨by omega,by omega⟩ ⟨by omega,by omega⟩).mono ?_;rintro e w16 hp16;obtain⟨rfl,cv16,nv16,vv16,C16⟩:=Mg.done C14 hp16;clear hp16 C14;have HB17:Hid (Co.Bd (n+Co.wE x+1+1+Co.wE y+1+1+0+1+1+1+1) (Co.emit (Co.patch ({ Co.emit (Co.emit (Co.gE cs cl.fields (Co.emit (Co.gE cs cl.fields (g) x) (op) 0 0 (1) 0) y) (17) (0) (0) (1) (1)) (18) 0 0 (0) 0 with depth:=(Co.emit (Co.emit (Co.gE cs cl.fields (Co.emit (Co.gE cs cl.fields (g) x) (op) 0 0 (1) 0) y) (17) (0) (0) (1) (1)) (18) 0 0 (0) 0).depth -1 }) ((Co.gE cs cl.fields g x).code.length)) (0) (endv) (0) (0) (1))/\n+Co.wE x+1+1+Co.wE y+1+1+0+1+1+1+1<=900000):=zh ⟨HB15.1.em (m:=1) ⟨by omega,by omega⟩ ⟨by omega,by omega⟩,by have h9:=HT.out;omega⟩;clear HB15;go_wp2_with fail;refine(zC9 C16.q HB17 (k:=(Co.emit (Co.gE cs cl.fields (Co.emit (Co.gE cs cl.fields g x) op 0 0 1 0) y) 17 0 0 1 1).code.length) (by rw [Co.zBJ (Co.patch ({ Co.emit (Co.emit (Co.gE cs cl.fields (Co.emit (Co.gE cs cl.fields g x) op 0 0 1 0) y) 17 0 0 1 1) 18 0 0 0 0 with depth:=(Co.emit (Co.emit (Co.gE cs cl.fields (Co.emit (Co.gE cs cl.fields g x) op 0 0 1 0) y) 17 0 0 1 1) 18 0 0 0 0).depth -1 }) (Co.gE cs cl.fields g x).code.length),Co.zC8 ({ Co.emit (Co.emit (Co.gE cs cl.fields (Co.emit (Co.gE cs cl.fields g x) op 0 0 1 0) y) 17 0 0 1 1) 18 0 0 0 0 with depth:=(Co.emit (Co.emit (Co.gE cs cl.fields (Co.emit (Co.gE cs cl.fields g x) op 0 0 1 0) y) 17 0 0 1 1) 18 0 0 0 0).depth -1 })];show _<(Co.emit (Co.emit (Co.gE cs cl.fields (Co.emit (Co.gE cs cl.fields g x) op 0 0 1 0) y) 17 0 0 1 1) 18 0 0 0 0).code.length+1;rw [Co.zBJ (Co.emit (Co.gE cs cl.fields (Co.emit (Co.gE cs cl.fields g x) op 0 0 1 0) y) 17 0 0 1 1)];omega) (C16.b 1 rfl) (C16.b 0 rfl) (C16.lts (q:=X2) (by simp)).2.2 (C16.lts (q:=A2) (by simp)).2.2).mono ?_;rintro e w18 hp18;obtain⟨rfl,cv18,nv18,vv18,C18⟩:=Mg.done C16 hp18;clear hp18 C16;have HB19:Hid (Co.Bd (n+Co.wE x+1+1+Co.wE y+1+1+0+1+1+1+1) (Co.patch (Co.emit (Co.patch ({ Co.emit (Co.emit (Co.gE cs cl.fields (Co.emit (Co.gE cs cl.fields (g) x) (op) 0 0 (1) 0) y) (17) (0) (0) (1) (1)) (18) 0 0 (0) 0 with depth:=(Co.emit (Co.emit (Co.gE cs cl.fields (Co.emit (Co.gE cs cl.fields (g) x) (op) 0 0 (1) 0) y) (17) (0) (0) (1) (1)) (18) 0 0 (0) 0).depth -1 }) ((Co.gE cs cl.fields g x).code.length)) (0) (endv) (0) (0) (1)) ((Co.emit (Co.gE cs cl.fields (Co.emit (Co.gE cs cl.fields g x) op 0 0 1 0) y) 17 0 0 1 1).code.length))/\n+Co.wE x+1+1+Co.wE y+1+1+0+1+1+1+1<=900000):=zh ⟨HB17.1.patch _,by have h9:=HT.out;omega⟩;clear HB17;go_wp2_with fail;go_end0;have h9:=Mg.fin C18.out;rw [HX.out] at h9;exact h9
end Cw
end
section
namespace Cw
open Go.RowKit Go.Maps Pw
theorem zUS (n:Int):wrap64 (n*4) / 4=Co.wrap n:=by
 unfold wrap64 Co.wrap;omega
def Q62 (n:Int):Prop:= -2305843009213693952<=n/\n<=2305843009213693951
theorem wrap62 {n:Int} (h:Q62 n):Co.wrap n=n:=by
 unfold Co.wrap;have:=h.1;have:=h.2;omega
theorem zG1 (n:Int):Q62 (Co.wrap n):=Co.zP3 n
def enc (n:Int):Int:=(n*4+1) % 18446744073709551616
theorem enc_or (n:Int):bits BinOp.or IntKind.u64 (IntKind.u64.wrap (IntKind.u64.wrap n*4)) 1=enc n:=by
 have h1:IntKind.u64.wrap (IntKind.u64.wrap n*4)=(((4*(n % 4611686018427387904).toNat:Nat)):Int):=by
  rw [IntKind.wrap_u64,IntKind.wrap_u64];omega
 have h3:(1:Int)=((1:Nat):Int):=rfl;rw [h1,h3,bits_or_u64_nat _ _ (by omega) (by decide)];have h2:=Nat.two_pow_add_eq_or_of_lt (i:=2) (b:=1) (by decide) (n % 4611686018427387904).toNat;rw [show (2:Nat) ^ 2=4 from rfl] at h2;rw [<-h2];unfold enc;omega
theorem zVJ (n:Int):bits BinOp.and IntKind.u64 (enc n) 3=1:=by
 have h1:enc n=(((enc n).toNat:Nat):Int):=by unfold enc;omega
 have h3:(3:Int)=((3:Nat):Int):=rfl;rw [h1,h3,bits_and_u64_nat _ _ (by unfold enc;omega) (by decide)];have h2:=Nat.and_two_pow_sub_one_eq_mod (enc n).toNat 2;rw [show 2 ^ 2 -1=3 from rfl,show 2 ^ 2=4 from rfl] at h2;rw [h2];unfold enc;omega
theorem zVI {n:Int} (h:Q62 n):wrap64 (enc n) / 4=n:=by
 have:=h.1;have:=h.2;unfold wrap64 enc;omega
theorem zGI (n:Int) (w:World):Calls prog 148 #[.int .i64 n] w fun e w'=>e= .returned (.int .i64 (Co.wrap n))/\w'=w:=by
 have HE:=zh (zUS n);go_in;go_wp2;go_ret;rw [<-HE.out];exact⟨rfl,rfl⟩
theorem zCS (n:Int) (h:Q62 n) (w:World):Calls prog 101 #[.int .i64 n] w fun e w'=>e= .returned (.tuple #[.int .u64 (enc n),.int .i64 0])/\w'=w:=by
 have HK:=zh (zGI n w);rw [wrap62 h] at HK;have HE:=zh (enc_or n);go_in;go_wp2_with fail;refine HK.mono ?_;rintro e w' ⟨rfl,rfl⟩;go_wp2_with fail;go_ret2;rw [HE.out];exact⟨rfl,rfl⟩
theorem zDQ (n:Int) (h:Q62 n) (w:World):Calls prog 105 #[.int .u64 (enc n)] w fun e w'=>e= .returned (.tuple #[.int .i64 n,.bool true])/\w'=w:=by
 have hb:(bits BinOp.and IntKind.u64 (enc n) 3 != 1)=false:=by rw [zVJ];rfl
 have HD:=zh (zVI h);obtain⟨X,hX⟩:∃X,enc n=X:=⟨_,rfl⟩;rw [hX] at hb HD |-;go_in;go_wp2_with fail;go_ret2;rw [HD.out];exact⟨rfl,rfl⟩
theorem zN2 (w:World):Calls prog 105 #[.int .u64 0] w fun e w'=>e= .returned (.tuple #[.int .i64 0,.bool false])/\w'=w:=by
 have hb:(bits BinOp.and IntKind.u64 0 3 != 1)=true:=by decide
 go_in;go_wp2_with fail;go_ret2;exact⟨rfl,rfl⟩
theorem zEM (F:Nat) (cap:Array Value) (x y n:Int) (hx:Q62 x) (hy:Q62 y) (R:World->Prop) (w:World) (hent:∀args W,(callFunc F args).run prog W= .ok (.enter F args) W)
 (H:Calls prog F (#[.int .i64 x,.int .i64 y]++cap) w fun e w'=>e= .returned (.tuple #[.int .i64 n,.int .i64 0])/\R w'):
 Calls prog 155 #[.int .u64 (enc x),.int .u64 (enc y),.func (.func F) #[] cap] w fun e w'=>e= .returned (.tuple #[.int .u64 (enc (Co.wrap n)),.int .i64 0])/\R w':=by
 have K1:=zh (zDQ x hx w);have K2:=zh (zDQ y hy w);have K3:Hid (∀w,Calls prog 148 #[.int .i64 n] w fun e w'=>e= .returned (.int .i64 (Co.wrap n))/\w'=w):=zh (zGI n);have K4:Hid (∀w,Calls prog 101 #[.int .i64 (Co.wrap n)] w fun e w'=>e= .returned (.tuple #[.int .u64 (enc (Co.wrap n)),.int .i64 0])/\w'=w):=zh (zCS _ (zG1 n));have HH:=zh H;clear H;obtain⟨X,hX⟩:∃X,enc x=X:=⟨_,rfl⟩;obtain⟨Y,hY⟩:∃X,enc y=X:=⟨_,rfl⟩;obtain⟨M,hM⟩:∃X,Co.wrap n=X:=⟨_,rfl⟩;obtain⟨Z,hZ⟩:∃X,enc M=X:=⟨_,rfl⟩;rw [hX] at K1 |-;rw [hY] at K2 |-;rw [hM] at K3 K4 |-;rw [hZ] at K4 |-;clear hX hY hM hZ;go_in;go_wp2_with fail;refine K1.mono ?_;rintro e w' ⟨rfl,rfl⟩;go_wp2_with fail;refine K2.mono ?_;rintro e w' ⟨rfl,rfl⟩;go_wp2_with fail;refine HH.mono ?_;rintro e w2 ⟨rfl,hR⟩;go_wp2_with fail;refine(K3 _).mono ?_;rintro e w' ⟨rfl,rfl⟩;go_wp2_with fail;refine(K4 _).mono ?_;rintro e w' ⟨rfl,rfl⟩;go_wp2_with fail;go_ret2;exact⟨rfl,hR⟩
end Cw
end
end Go.Proofs.YtcnmfcgmnkncaaaGreatDoor
