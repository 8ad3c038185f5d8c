/-
  execute, walked.
-/
import Derived.Test.YtcnmfcgmnkncaaaGreatDoorJ32
namespace Go.Proofs.YtcnmfcgmnkncaaaGreatDoor
namespace Cw
open Go.RowKit Go.Maps Pw
def vC (x:Co.Val):List Value:= [.bool x.isSome,.int .i64 (x.getD 0)]
def okV (_:World) (_:Co.Val):Prop:=True
theorem zS:Mono okV:=fun _ _ _ _ _=>trivial
theorem zL1 (x:Co.Val):(vC x).length=2:=rfl
theorem zSX (x:Co.Val):∀u∈vC x,u.oneCell'=true:=by
 intro u hu
 simp only [vC,List.mem_cons,List.not_mem_nil,or_false] at hu
 rcases hu with rfl|rfl<;>rfl
abbrev RowV (B:Nat) (l:List Nat) (W:World) (v:Value) (tr:List Co.Val):Prop:=RowOk vC 2 43 okV B l W v tr
theorem My.row0 {w W:World} {G:Nat} {bs:List Bk} (h:My w ((G,#[],43)::bs) [] W):RowV w.heap.size (bs.map Prod.fst) W (.slice (some ⟨G,0,none⟩) 0 0) []∧My w bs [] W:=
 ⟨⟨⟨rfl,.inr ⟨G,0,#[],rfl,(h.lt 0 rfl).1,h.b 0 rfl,Nat.le_refl _,by unfold maxLen;omega,rfl,rfl⟩⟩,(fun x hx=>by cases hx),(fun q hq e=>by injection e with e;subst e;exact(List.nodup_cons.1 h.nd).1 hq)⟩,h.tl⟩
theorem zRV {a b:Co.Val} {l:List Co.Ins} {F pc:Nat} {st:List Co.Val} (h:l[pc]? =none):Co.run 7 2 a b l (F+1) pc st=(none,0,false):=by rw [Co.run,h]
theorem zPA {a b:Co.Val} {l:List Co.Ins} {F pc:Nat} {st:List Co.Val} {x:Co.Ins} (h:l[pc]? =some x) (ho:Co.okOp x.1) (hs:(st.length:Int)<Co.pops x.1 x.2.2):Co.run 7 2 a b l (F+1) pc st=(none,0,false):=by
 obtain⟨o,y,z⟩:=x
 rw [Co.run,h]
 dsimp only at ho hs ⊢
 cases st with
 |nil=>
  rcases ho with rfl|rfl|rfl|rfl|rfl|rfl|rfl|rfl|rfl|rfl|rfl|rfl
  all_goals first|exact absurd hs (show ¬((0:Int)<0) by decide)|rfl
 |cons v r=>
  cases r with
  |nil=>
   rcases ho with rfl|rfl|rfl|rfl|rfl|rfl|rfl|rfl|rfl|rfl|rfl|rfl
   all_goals first|exact absurd hs (show ¬((1:Int)<0) by decide)|exact absurd hs (show ¬((1:Int)<1) by decide)|rfl
  |cons u r=>
   exfalso
   have h3:(2:Int)≤((v::u::r).length:Int):=by simp only [List.length_cons];omega
   have h4:Co.pops o z≤2:=by
    rcases ho with rfl|rfl|rfl|rfl|rfl|rfl|rfl|rfl|rfl|rfl|rfl|rfl
    all_goals first|exact (show(0:Int)≤2 by decide)|exact (show(1:Int)≤2 by decide)|exact (show(2:Int)≤2 by decide)
   omega
theorem SrcAt.take' {α:Type} {f:α→List Value} {w:World} {p:Option Addr} {n c:Nat} {l:List α} (h:SrcAt w f (.slice p n c) l) {T:Nat} (hT:T≤l.length):SrcAt w f (.slice p T c) (l.take T):=by
 rcases h with ⟨rfl,p',c',e⟩|⟨b,o,c',e,hx⟩
 ·have:T=0:=by simpa using hT
  subst this
  exact .inl ⟨rfl,p,c,rfl⟩
 ·injection e with e1 e2 e3
  subst e1 e3
  refine .inr ⟨b,o,c,by rw [List.length_take,Nat.min_eq_left hT],fun j u hj=>hx j u ?_⟩
  have h2:flatV f l=flatV f (l.take T)++flatV f (l.drop T):=by rw [←zAP,List.take_append_drop]
  rw [h2,List.getElem?_append_left (List.getElem?_eq_some_iff.1 hj).1]
  exact hj
def AR (N:Nat) (W:World) (p:Option Addr) (T KP:Nat) (tr:List Co.Val):Prop:=0<KP→∃g o,p=some ⟨g,o,none⟩∧g<N∧∀i v,i<KP→tr[T+i]? =some v→W.cell? ⟨g,o+i*2,none⟩=some (.bool v.isSome)∧W.cell? ⟨g,o+i*2+1,none⟩=some (.int .i64 (v.getD 0))
theorem AR.of {B:Nat} {l:List Nat} {W:World} {ps pA:Option Addr} {T KP c:Nat} {tr:List Co.Val} (h:RowV B l W (.slice ps (T+KP) c) tr) (hp:(if c=T then ps else Option.map (fun x=>x.add (T*2)) ps)=pA):AR W.heap.size W pA T KP tr:=fun hk=>by
 rcases h.own.2 with ⟨e,e2⟩|⟨g,cap,cur,e,hB,hblk,hnc,hcm,hcs,htk⟩
 ·injection e with _ e3 _
  omega
 ·injection e with e1 e3 e4
  subst e1 e4
  have hadd:∀j,(⟨g,0,none⟩:Addr).add j=⟨g,j,none⟩:=fun j=>by unfold Addr.add;split<;>simp_all
  rw [if_neg (by omega)] at hp
  refine⟨g,T*2,by rw [←hp];exact congrArg some (hadd _),lt_of_block hblk,fun i v hi hv=>?_⟩
  have hc:=h.own.cells (g:=g) rfl
  have h0:=hc ((T+i)*2+0) (.bool v.isSome) (by rw [zB8 vC 2 zL1 tr (T+i) v 0 (by omega) hv];rfl)
  have h1:=hc ((T+i)*2+1) (.int .i64 (v.getD 0)) (by rw [zB8 vC 2 zL1 tr (T+i) v 1 (by omega) hv];rfl)
  rw [hadd] at h0 h1
  rw [show (T+i)*2+0=T*2+i*2 from by omega] at h0
  rw [show (T+i)*2+1=T*2+i*2+1 from by omega] at h1
  exact⟨h0,h1⟩
theorem AR.keep {N:Nat} {W W':World} {p:Option Addr} {T KP:Nat} {tr:List Co.Val} (h:AR N W p T KP tr) (hb:Below W.heap.size W W'):AR N W' p T KP tr:=fun hk=>by
 obtain⟨g,o,e,hg,hx⟩:=h hk
 exact⟨g,o,e,hg,fun i v hi hv=>⟨zA hb (hx i v hi hv).1,zA hb (hx i v hi hv).2⟩⟩
theorem vInfo:(Tryz.prog.info? 43).map (fun i=>(i.zero,i.size,i.bytes))=some (some (.agg #[.bool false,.int .i64 0]),2,16):=by kernel_rfl
set_option maxRecDepth 100000 in
set_option maxHeartbeats 16000000 in
theorem zLQ (nm:ByteArray) (pa lo:Int) (l:List Co.Ins) (cv nv:Value) (a b:Co.Val) (w:World) (hnv:∃p n c,nv= .slice p n c) (hC:SlI w cv l) (hl:l.length≤4000) (hv:∀x∈l,Vd x∧Co.okOp x.1):
 Calls Tryz.prog 28 #[.agg #[.string nm,.int .i64 pa,.int .i64 lo,cv,nv],vV a,vV b] w fun e w'=>e= .returned (.tuple #[vV (Co.run 7 2 a b l 5000 0 []).1,.int .i64 (Co.run 7 2 a b l 5000 0 []).2.1,.bool (Co.run 7 2 a b l 5000 0 []).2.2])∧Below w.heap.size w w':=by
 have hC0:=hC
 obtain⟨pI,cI,rfl,_⟩:=hC.form
 obtain⟨pn,NN,cn,rfl⟩:=hnv
 obtain⟨LN,hLN⟩:∃q,l.length=q:=⟨_,rfl⟩
 rw [hLN] at hC0 hl ⊢
 have HC:=zh hC0
 have HLN:=zh hLN
 have HL:=zh hl
 have HV:=zh hv
 clear hC hC0 hLN hl hv
 obtain⟨sA,hsA⟩:∃q,a.isSome=q:=⟨_,rfl⟩
 obtain⟨nA,hnA⟩:∃q,a.getD 0=q:=⟨_,rfl⟩
 obtain⟨sB,hsB⟩:∃q,b.isSome=q:=⟨_,rfl⟩
 obtain⟨nB,hnB⟩:∃q,b.getD 0=q:=⟨_,rfl⟩
 obtain⟨r1,r2,r3,hrun⟩:∃r1 r2 r3,Co.run 7 2 a b l 5000 0 []=(r1,r2,r3):=⟨_,_,_,rfl⟩
 rw [hrun]
 dsimp only
 have HRUN:=zh hrun
 unfold vV
 rw [hsA,hnA,hsB,hnB]
 have HSA:=zh hsA
 have HNA:=zh hnA
 have HSB:=zh hsB
 have HNB:=zh hnB
 clear hsA hnA hsB hnB hrun
 have C0:=zh (My.start w)
 obtain⟨M,w1,HX1,HW1,hx1,C1⟩:=C0.out.boxE #[.string nm,.int .i64 pa,.int .i64 lo,.slice pI LN cI,.slice pn NN cn] 59
 obtain⟨A,w2,HX2,HW2,hx2,C2⟩:=C1.out.boxE #[.bool sA,.int .i64 nA] 43
 have HY2:Hid (A=M+1):=zh (by rw [HX2.out,HW1.out,HX1.out];simp)
 obtain⟨B,w3,HX3,HW3,hx3,C3⟩:=C2.out.boxE #[.bool sB,.int .i64 nB] 43
 have HY3:Hid (B=A+1):=zh (by rw [HX3.out,HW2.out,HX2.out];simp)
 obtain⟨R,w4,HX4,HW4,hx4,C4⟩:=C3.out.boxE #[.bool false,.int .i64 0] 43
 have HY4:Hid (R=B+1):=zh (by rw [HX4.out,HW3.out,HX3.out];simp)
 go_enter Tryz.func28,Tryz.ntmps28
 go_upto_region 1 with fail
 rw [←HX1.out,←HW1.out,←HY2.out,←HW2.out,←HY3.out,←HW3.out,←HY4.out,←HW4.out]
 clear HX1 HW1 C0 HY2 HX2 HW2 C1 HY3 HX3 HW3 C2 HY4 HX4 HW4 C3
 obtain⟨G,w5,HX,HW,hx5,C5⟩:=C4.out.boxE #[] 43
 go_upto_region 2 with fail
 rw [←HX.out,←HW.out]
 clear HX HW C4
 obtain⟨hr0,hc0⟩:=My.row0 C5.out
 have HR0:=zh hr0
 have CS:=zh hc0
 clear hr0 hc0 C5
 go_wp2_with fail
 go_loopg [9,10,11] 5000 (fun gg s9 s10 s11 wr=>∃(j pc:Nat) (st:List Co.Val) (sv:Value),s9=sv∧s10= .int .i64 pc∧s11= .int .i64 j∧j≤5000∧gg=5000 -j∧pc≤4000∧st.length≤j∧Hid (Co.run 7 2 a b l (5000 -j) pc st=(r1,r2,r3))∧Hid (My w [(R,#[.bool false,.int .i64 0],43),(B,#[.bool sB,.int .i64 nB],43),(A,#[.bool sA,.int .i64 nA],43),(M,#[.string nm,.int .i64 pa,.int .i64 lo,.slice pI LN cI,.slice pn NN cn],59)] [] wr)∧Hid (RowV w.heap.size [R,B,A,M] wr sv st.reverse))
 case atStart=>exact ⟨0,0,[],_,rfl,rfl,rfl,Nat.zero_le _,rfl,Nat.zero_le _,Nat.le_refl _,HRUN,CS,HR0⟩
 case round=>
  clear CS HR0 HRUN
  obtain⟨j,pc,st,sv,rfl,rfl,rfl,hj,rfl,hpc,hst,HRN,CR,HRW⟩:=hrel
  obtain⟨ps,cs_,hsv⟩:=own_form HRW.out.own
  rw [List.length_reverse] at hsv
  subst hsv
  by_cases hlt:j<5000
  ·obtain⟨w_,hw_⟩:∃q,q=wr:=⟨_,rfl⟩
   rw [←hw_] at CR HRW ⊢
   clear hw_
   obtain⟨F,hF⟩:∃F,5000 -j=F+1:=⟨4999 -j,by omega⟩
   have HFJ:=zh hF
   rw [hF] at HRN
   clear hF
   have hl4:=HL.out
   by_cases hpl:pc<LN
   ·obtain⟨x,hx⟩:∃x,l[pc]? =some x:=⟨_,List.getElem?_eq_getElem (by rw [HLN.out];exact hpl)⟩
    obtain⟨hvd,hok⟩:=HV.out x (List.mem_of_getElem? hx)
    obtain⟨xo,xa,xb⟩:=x
    have HX:=zh hx
    have HVD:=zh hvd
    have HOK:=zh hok
    obtain⟨KP,hKP,hK2⟩:∃k:Nat,Co.pops xo xb=(k:Int)∧k≤2:=by
     rcases hok with h|h|h|h|h|h|h|h|h|h|h|h
     all_goals first|exact ⟨0,by dsimp only at h;rw [h];rfl,by omega⟩|exact ⟨1,by dsimp only at h;rw [h];rfl,by omega⟩|exact ⟨2,by dsimp only at h;rw [h];rfl,by omega⟩
    have HKP:=zh hKP
    obtain⟨b5,o5,hp5,hb5,hi0,hi1,hi2⟩:=(HC.out.keep CR.out.gr.fresh).get hx
    dsimp only at hi0 hi1 hi2
    subst hp5
    clear hx hvd hok hKP
    have q3:=cells5 (CR.out.b 3 rfl)
    obtain⟨I,w8,HX,HW,hx8,C8⟩:=CR.out.boxE #[.int .i64 xo,.int .i64 xa,.int .i64 xb] 65
    go_upto_region 9 with fail
    rw [←HX.out,←HW.out]
    have HRW9:=zh (HRW.out.box zS HX.out (.cells #[.int .i64 xo,.int .i64 xa,.int .i64 xb] 65))
    rw [←HW.out] at HRW9
    clear HRW
    have HRW:=HRW9
    clear HRW9
    clear HX HW CR q3
    have q0:=cells3 (C8.out.b 0 rfl)
    go_wp2_with fail
    clear q0
    have hk:=zKJ (xo,xa,xb) HVD.out w8
    dsimp only at hk
    rw [HKP.out] at hk
    refine hk.mono ?_
    clear hk
    rintro e w9 ⟨rfl,hb9⟩
    have C9:=zh (Mz.below C8.out hb9)
    have HRW9:=zh (HRW.out.below zS hb9)
    clear hb9 HRW C8
    have HRW:=HRW9
    clear HRW9
    by_cases hkl:st.length<KP
    ·have h9:((none,0,false):Co.Res)=(r1,r2,r3):=(zPA HX.out HOK.out (by dsimp only;rw [HKP.out];omega)).symm.trans HRN.out
     injection h9 with e1 h9
     injection h9 with e2 e3
     subst e1 e2 e3
     clear HRN
     have q1:=cells2 (C9.out.b 1 rfl)
     have q4:=cells5 (C9.out.b 4 rfl)
     obtain⟨w10,HW,C10⟩:=C9.out.set2 1 rfl (.bool false) (.int .i64 0)
     dsimp only [List.set] at C10
     go_wp2_with fail
     rw [←HW.out]
     clear HW C9 q1 q4
     exact Mz.retA2 C10.out 1 rfl Tryz.results28 rfl rfl rfl rfl ⟨_,Tryz.underlying43⟩ (by kernel_rfl) ⟨rfl,C10.out.gr.fresh⟩
    obtain⟨T,hT⟩:∃T,st.length=T+KP:=⟨st.length -KP,by omega⟩
    rw [hT] at HRW ⊢
    have HT:=zh hT
    clear hkl
    have hnc:T+KP≤cs_:=by
     rcases HRW.out.own.2 with ⟨e,e2⟩|⟨g,cap,cur,e,_,_,h9,_⟩
     ·injection e with _ e3 e4
      omega
     ·injection e with _ e3 e4
      omega
    have HNC:=zh hnc
    go_upto_region 14 with fail
    obtain⟨pA,hpA⟩:∃q,(if cs_=T then ps else Option.map (fun x=>x.add (T*2)) ps)=q:=⟨_,rfl⟩
    rw [hpA]
    have HAR:=zh (AR.of HRW.out hpA)
    clear hpA
    obtain⟨i0,hi0,hz0,hz1,hz2⟩:=info_parts vInfo
    obtain⟨G2,wg,HG,HWG,hxg,CG⟩:=C9.out.boxE #[] 43
    have HRG:=zh (My.row0 CG.out)
    have HSR:=zh (SrcAt.take' (T:=T) (HRW.out.below zS (zD w9 (.cells #[] 43))).src (by rw [List.length_reverse,HT.out];omega))
    rw [←HWG.out] at HSR
    have HBG:Hid (Below w9.heap.size w9 wg):=zh (by rw [HWG.out];exact zD _ _)
    have htk:(st.reverse.take T).length=T:=by rw [List.length_take,List.length_reverse,HT.out];omega
    have HTK:=zh htk
    clear htk
    have hst5:T≤5000:=by have h9:=HT.out;omega
    have HST:=zh hst5
    go_upto_region 14 with fail
    have ht1:(T:Int)≤(cs_:Int):=by have:=HNC.out;omega
    have ht2:T≤cs_:=by omega
    refine wp_region_lit ?_
    refine wpList_plain rfl (fun K hK=>?_)
    go_simp
    rw [←HG.out,←HWG.out]
    refine hK _ _ ?_
    clear hK K
    try simp only [Act.put,q0,q1,q2]
    refine wpList_plain rfl (fun K hK=>?_)
    go_simp
    refine hK _ _ ?_
    clear hK K
    try simp only [Act.put,q0,q1,q2]
    refine wpList_plain rfl (fun K hK=>?_)
    go_simp
    refine hK _ _ ?_
    clear hK K
    try simp only [Act.put,q0,q1,q2]
    refine wpList_plain rfl (fun K hK=>?_)
    go_simp
    refine hK _ _ ?_
    clear hK K
    try simp only [Act.put,q0,q1,q2]
    refine zDL zL1 zS rfl _ _ 90 rfl i0 (.agg #[.bool false,.int .i64 0]) 16 Tryz.underlying90 hi0 hz0 hz1 hz2 rfl (by decide) _ (st.reverse.take T) rfl rfl HRG.out.1 HSR.out (fun _ _=>trivial) (fun x _=>zSX x) (by have h9:=HTK.out;have h8:=HST.out;rw [h9];unfold maxLen;simp only [List.length_nil];omega) (by have h9:=HTK.out;have h8:=HST.out;rw [h9];simp only [List.length_nil];omega) HRG.out.2.le ?_ (fun q hq=>(HRG.out.2.lts hq).2.1)
    intro v9 wa hr9 hg9
    have CA:=zh (My.push HRG.out.2 hg9 (fun q hq=>by injection hq with hq;subst hq;exact⟨(CG.out.lt 0 rfl).1,(List.nodup_cons.1 CG.out.nd).1⟩))
    have HBA:Hid (Below w9.heap.size w9 wa):=zh ⟨hg9.os.trans HBG.out.os,hg9.tape.trans HBG.out.tape,hg9.output.trans HBG.out.output,Nat.le_trans HBG.out.size hg9.size,fun b hb=>(hg9.block b (Nat.lt_of_lt_of_le hb HBG.out.size) (fun e=>by injection e with e;have h8:=HG.out;have h7:b=G2:=(by first|exact e|exact e.symm);rw [h7,h8] at hb;exact absurd hb (Nat.lt_irrefl _))).trans (HBG.out.block b hb)⟩
    rw [List.nil_append] at hr9
    obtain⟨p9,c9,hv9⟩:=own_form hr9.own
    rw [HTK.out] at hv9
    subst hv9
    have HRA:=zh hr9
    clear hr9 hg9 HRG HSR CG HG HWG HBG
    go_upto_region 16 with fail
    have HAR9:=zh (HAR.out.keep HBA.out)
    have HBS:=zh HBA.out.size
    clear HAR HBA HRW
    have HAR:=HAR9
    have HRW:=HRA
    clear HAR9 HRA
    obtain⟨X,w12,HX,HW,hx12,C12⟩:=CA.out.boxE #[.bool false,.int .i64 0] 43
    go_upto_region 17 with fail
    rw [←HX.out,←HW.out]
    have HXN:Hid (w9.heap.size≤X):=zh (by rw [HX.out];exact HBS.out)
    clear HBS
    have HAR9:=zh (HAR.out.keep (zD wa (.cells #[.bool false,.int .i64 0] 43)))
    rw [←HW.out] at HAR9
    clear HAR
    have HAR:=HAR9
    clear HAR9
    have HRW9:=zh (HRW.out.box zS HX.out (.cells #[.bool false,.int .i64 0] 43))
    rw [←HW.out] at HRW9
    clear HRW
    have HRW:=HRW9
    clear HRW9
    clear HX HW CA
    have HRX:=zh (show RowV w.heap.size [X,I,R,B,A,M] w12 (.slice p9 T c9) (st.reverse.take T) from HRW.out)
    clear HRW
    have HRW:=HRX
    clear HRX
    have q1:=cells3 (C12.out.b 1 rfl)
    go_upto_block 2 with fail
    clear q1
    go_cut [10,18] (fun s10 s18 wx=>s10= .int .i64 ((pc+1:Nat):Int)∧∃(v:Co.Val) (f:Nat),s18= .int .i64 f∧Hid ((f=0→Co.run 7 2 a b l F (pc+1) (v::st.drop KP)=(r1,r2,r3))∧(f≠0→((none,f,true):Co.Res)=(r1,r2,r3)))∧Hid (My w [(X,#[.bool v.isSome,.int .i64 (v.getD 0)],43),(I,#[.int .i64 xo,.int .i64 xa,.int .i64 xb],65),(R,#[.bool false,.int .i64 0],43),(B,#[.bool sB,.int .i64 nB],43),(A,#[.bool sA,.int .i64 nA],43),(M,#[.string nm,.int .i64 pa,.int .i64 lo,.slice (some ⟨b5,o5,none⟩) LN cI,.slice pn NN cn],59)] [] wx)∧Hid (RowV w.heap.size [X,I,R,B,A,M] wx (.slice p9 T c9) (st.reverse.take T)))
    case first=>
     have HOK2:=HOK.out
     rcases HOK2 with h|h|h|h|h|h|h|h|h|h|h|h
     ·subst h
      obtain rfl:KP=0:=by have h9:=HKP.out;have h8:Co.pops 0 xb=0:=rfl;omega
      have q0:=cells2 (C12.out.b 0 rfl)
      have q1:=cells3 (C12.out.b 1 rfl)
      obtain⟨w13,HW,C13⟩:=C12.out.set2 0 rfl (.bool true) (.int .i64 xa)
      dsimp only [List.set] at C13
      go_wp2_with fail
      rw [←HW.out]
      have HWX:=HW
      clear HW C12 q0 q1
      have HRW9:Hid (RowV w.heap.size [X,I,R,B,A,M] w13 (.slice p9 T c9) (st.reverse.take T)):=zh (HRW.out.keep zS (row:=some X) (by rw [HWX.out];exact zL (zH w12 X 0 (.bool true)) (zH (w12.setCell ⟨X,0,none⟩ (.bool true)) X 1 (.int .i64 xa))) (fun q hq=>by injection hq with hq;exact .inr (by rw [←hq];exact List.mem_cons_self ..)) (fun q hq=>HRW.out.nin q (by injection hq with hq;rw [←hq];exact List.mem_cons_self ..)))
      clear HRW
      have HRW:=HRW9
      clear HRW9 HWX
      go_meet
      exact⟨by go_num,some xa,0,rfl,zh ⟨fun _=>(by have h9:=HRN.out;rw [Co.run,HX.out] at h9;exact h9),fun h=>absurd rfl h⟩,C13,HRW⟩
     ·subst h
      obtain rfl:KP=0:=by have h9:=HKP.out;have h8:Co.pops 1 xb=0:=rfl;omega
      have q0:=cells2 (C12.out.b 0 rfl)
      have q1:=cells3 (C12.out.b 1 rfl)
      go_wp2_with fail
      clear q0 q1
      go_meet
      exact⟨by go_num,none,0,rfl,zh ⟨fun _=>(by have h9:=HRN.out;rw [Co.run,HX.out] at h9;exact h9),fun h=>absurd rfl h⟩,C12,HRW⟩
     ·subst h
      obtain rfl:KP=0:=by have h9:=HKP.out;have h8:Co.pops 3 xb=0:=rfl;omega
      by_cases hxa:xa=1
      ·subst hxa
       have q0:=cells2 (C12.out.b 0 rfl)
       have q4:=cells2 (C12.out.b 4 rfl)
       have q1:=cells3 (C12.out.b 1 rfl)
       obtain⟨w14,HW,C14⟩:=C12.out.set2 0 rfl (.bool sA) (.int .i64 nA)
       dsimp only [List.set] at C14
       go_upto_region 24 with fail
       rw [←HW.out]
       have HWX:=HW
       clear HW C12 q0 q4 q1
       have HRW9:Hid (RowV w.heap.size [X,I,R,B,A,M] w14 (.slice p9 T c9) (st.reverse.take T)):=zh (HRW.out.keep zS (row:=some X) (by rw [HWX.out];exact zL (zH w12 X 0 (.bool sA)) (zH (w12.setCell ⟨X,0,none⟩ (.bool sA)) X 1 (.int .i64 nA))) (fun q hq=>by injection hq with hq;exact .inr (by rw [←hq];exact List.mem_cons_self ..)) (fun q hq=>HRW.out.nin q (by injection hq with hq;rw [←hq];exact List.mem_cons_self ..)))
       clear HRW
       have HRW:=HRW9
       clear HRW9 HWX
       have q0:=cells2 (C14.out.b 0 rfl)
       have q3:=cells2 (C14.out.b 3 rfl)
       have q1:=cells3 (C14.out.b 1 rfl)
       obtain⟨w15,HW,C15⟩:=C14.out.set2 0 rfl (.bool sB) (.int .i64 nB)
       dsimp only [List.set] at C15
       go_wp2_with fail
       rw [←HW.out]
       have HWX:=HW
       clear HW C14 q0 q3 q1
       have HRW9:Hid (RowV w.heap.size [X,I,R,B,A,M] w15 (.slice p9 T c9) (st.reverse.take T)):=zh (HRW.out.keep zS (row:=some X) (by rw [HWX.out];exact zL (zH w14 X 0 (.bool sB)) (zH (w14.setCell ⟨X,0,none⟩ (.bool sB)) X 1 (.int .i64 nB))) (fun q hq=>by injection hq with hq;exact .inr (by rw [←hq];exact List.mem_cons_self ..)) (fun q hq=>HRW.out.nin q (by injection hq with hq;rw [←hq];exact List.mem_cons_self ..)))
       clear HRW
       have HRW:=HRW9
       clear HRW9 HWX
       go_meet
       exact⟨by go_num,b,0,rfl,zh ⟨fun _=>(by have h9:=HRN.out;rw [Co.run,HX.out] at h9;exact h9),fun h=>absurd rfl h⟩,(by rw [HSB.out,HNB.out];exact C15),HRW⟩
      ·have q0:=cells2 (C12.out.b 0 rfl)
       have q4:=cells2 (C12.out.b 4 rfl)
       have q1:=cells3 (C12.out.b 1 rfl)
       obtain⟨w16,HW,C16⟩:=C12.out.set2 0 rfl (.bool sA) (.int .i64 nA)
       dsimp only [List.set] at C16
       go_upto_region 24 with fail
       rw [←HW.out]
       have HWX:=HW
       clear HW C12 q0 q4 q1
       have HRW9:Hid (RowV w.heap.size [X,I,R,B,A,M] w16 (.slice p9 T c9) (st.reverse.take T)):=zh (HRW.out.keep zS (row:=some X) (by rw [HWX.out];exact zL (zH w12 X 0 (.bool sA)) (zH (w12.setCell ⟨X,0,none⟩ (.bool sA)) X 1 (.int .i64 nA))) (fun q hq=>by injection hq with hq;exact .inr (by rw [←hq];exact List.mem_cons_self ..)) (fun q hq=>HRW.out.nin q (by injection hq with hq;rw [←hq];exact List.mem_cons_self ..)))
       clear HRW
       have HRW:=HRW9
       clear HRW9 HWX
       have hxe:(xa == 1)=false:=beq_eq_false_iff_ne.2 hxa
       have q1:=cells3 (C16.out.b 1 rfl)
       go_wp2_with fail
       clear q1
       go_meet
       exact⟨by go_num,a,0,rfl,zh ⟨fun _=>(by have h9:=HRN.out;rw [Co.run,HX.out] at h9;simpa [hxa] using h9),fun h=>absurd rfl h⟩,(by rw [HSA.out,HNA.out];exact C16),HRW⟩
     ·subst h
      obtain rfl:KP=1:=by have h9:=HKP.out;have h8:Co.pops 14 xb=1:=rfl;omega
      obtain⟨va,rst,hst2⟩:∃v r,st=v::r:=by
       have h9:=HT.out
       cases st with
       |nil=>simp at h9
       |cons v r=>exact ⟨v,r,rfl⟩
      subst hst2
      obtain⟨g9,o9,hpa,hg9,har⟩:=HAR.out (by decide)
      subst hpa
      have hT2:rst.length=T:=by have h9:=HT.out;rw [List.length_cons] at h9;omega
      obtain⟨ha0,ha1⟩:=har 0 va (by decide) (by rw [←hT2];simp)
      rw [Nat.zero_mul,Nat.add_zero] at ha0 ha1
      obtain⟨sV,hsV⟩:∃q,va.isSome=q:=⟨_,rfl⟩
      obtain⟨nV,hnV⟩:∃q,va.getD 0=q:=⟨_,rfl⟩
      rw [hsV] at ha0
      rw [hnV] at ha1
      have HAC:Hid (w12.cell? ⟨g9,o9,none⟩=some (.bool sV)∧w12.cell? ⟨g9,o9+1,none⟩=some (.int .i64 nV)):=zh ⟨ha0,ha1⟩
      have HSV:=zh hsV
      have HNV:=zh hnV
      clear har ha0 ha1 hT2 hsV hnV
      obtain⟨sZ,hsZ⟩:∃q,(neg0 va).1.isSome=q:=⟨_,rfl⟩
      obtain⟨nZ,hnZ⟩:∃q,(neg0 va).1.getD 0=q:=⟨_,rfl⟩
      have HSZ:=zh hsZ
      have HNZ:=zh hnZ
      clear hsZ hnZ
      have qa:=HAC.out
      have q1:=cells3 (C12.out.b 1 rfl)
      go_wp2_with fail
      clear q1
      clear qa
      have hk:=zGG va w12
      unfold vV at hk
      rw [HSV.out,HNV.out,HSZ.out,HNZ.out] at hk
      refine hk.mono ?_
      clear hk
      rintro e w17 ⟨rfl,hb9⟩
      have C17:=zh (Mz.below C12.out hb9)
      have HRW9:=zh (HRW.out.below zS hb9)
      have HAC9:Hid (w17.cell? ⟨g9,o9,none⟩=some (.bool sV)∧w17.cell? ⟨g9,o9+1,none⟩=some (.int .i64 nV)):=zh (⟨zA hb9 HAC.out.1,zA hb9 HAC.out.2⟩)
      clear hb9 HRW HAC C12
      have HRW:=HRW9
      have HAC:=HAC9
      clear HRW9 HAC9
      have q0:=cells2 (C17.out.b 0 rfl)
      obtain⟨w18,HW,C18⟩:=C17.out.set2 0 rfl (.bool sZ) (.int .i64 nZ)
      dsimp only [List.set] at C18
      go_wp2_with fail
      rw [←HW.out]
      have HWX:=HW
      clear HW C17 q0
      have HRW9:Hid (RowV w.heap.size [X,I,R,B,A,M] w18 (.slice p9 T c9) ((va::rst).reverse.take T)):=zh (HRW.out.keep zS (row:=some X) (by rw [HWX.out];exact zL (zH w17 X 0 (.bool sZ)) (zH (w17.setCell ⟨X,0,none⟩ (.bool sZ)) X 1 (.int .i64 nZ))) (fun q hq=>by injection hq with hq;exact .inr (by rw [←hq];exact List.mem_cons_self ..)) (fun q hq=>HRW.out.nin q (by injection hq with hq;rw [←hq];exact List.mem_cons_self ..)))
      clear HRW
      have HRW:=HRW9
      clear HRW9 HWX
      go_meet
      exact⟨by go_num,(neg0 va).1,(neg0 va).2,rfl,zh ⟨fun h0=>by have h9:=HRN.out;rw [Co.run,HX.out] at h9;cases va with|none=>exact absurd h0 (by decide)|some n=>exact h9,fun h0=>by have h9:=HRN.out;rw [Co.run,HX.out] at h9;cases va with|none=>exact h9|some n=>exact absurd rfl h0⟩,(by rw [HSZ.out,HNZ.out];exact C18),HRW⟩
     ·subst h
      obtain rfl:KP=1:=by have h9:=HKP.out;have h8:Co.pops 15 xb=1:=rfl;omega
      obtain⟨va,rst,hst2⟩:∃v r,st=v::r:=by
       have h9:=HT.out
       cases st with
       |nil=>simp at h9
       |cons v r=>exact ⟨v,r,rfl⟩
      subst hst2
      obtain⟨g9,o9,hpa,hg9,har⟩:=HAR.out (by decide)
      subst hpa
      have hT2:rst.length=T:=by have h9:=HT.out;rw [List.length_cons] at h9;omega
      obtain⟨ha0,ha1⟩:=har 0 va (by decide) (by rw [←hT2];simp)
      rw [Nat.zero_mul,Nat.add_zero] at ha0 ha1
      obtain⟨sV,hsV⟩:∃q,va.isSome=q:=⟨_,rfl⟩
      obtain⟨nV,hnV⟩:∃q,va.getD 0=q:=⟨_,rfl⟩
      rw [hsV] at ha0
      rw [hnV] at ha1
      have HAC:Hid (w12.cell? ⟨g9,o9,none⟩=some (.bool sV)∧w12.cell? ⟨g9,o9+1,none⟩=some (.int .i64 nV)):=zh ⟨ha0,ha1⟩
      have HSV:=zh hsV
      have HNV:=zh hnV
      clear har ha0 ha1 hT2 hsV hnV
      obtain⟨tv,htv⟩:∃q,Co.truth va=q:=⟨_,rfl⟩
      have HTV:=zh htv
      clear htv
      obtain⟨nZ,hnZ⟩:∃q,Co.bit (!tv)=q:=⟨_,rfl⟩
      have HNZ:=zh hnZ
      clear hnZ
      have qa:=HAC.out
      have q1:=cells3 (C12.out.b 1 rfl)
      go_wp2_with fail
      clear q1
      clear qa
      have hk:=zBM va w12
      unfold vV at hk
      rw [HSV.out,HNV.out,HTV.out] at hk
      refine hk.mono ?_
      clear hk
      rintro e w19 ⟨rfl,hb9⟩
      have C19:=zh (Mz.below C12.out hb9)
      have HRW9:=zh (HRW.out.below zS hb9)
      have HAC9:Hid (w19.cell? ⟨g9,o9,none⟩=some (.bool sV)∧w19.cell? ⟨g9,o9+1,none⟩=some (.int .i64 nV)):=zh (⟨zA hb9 HAC.out.1,zA hb9 HAC.out.2⟩)
      clear hb9 HRW HAC C12
      have HRW:=HRW9
      have HAC:=HAC9
      clear HRW9 HAC9
      go_wp2_with fail
      have hk:=zAG (!tv) w19
      unfold vV at hk
      dsimp only [Option.isSome,Option.getD] at hk
      rw [HNZ.out] at hk
      refine hk.mono ?_
      clear hk
      rintro e w20 ⟨rfl,hb9⟩
      have C20:=zh (Mz.below C19.out hb9)
      have HRW9:=zh (HRW.out.below zS hb9)
      have HAC9:Hid (w20.cell? ⟨g9,o9,none⟩=some (.bool sV)∧w20.cell? ⟨g9,o9+1,none⟩=some (.int .i64 nV)):=zh (⟨zA hb9 HAC.out.1,zA hb9 HAC.out.2⟩)
      clear hb9 HRW HAC C19
      have HRW:=HRW9
      have HAC:=HAC9
      clear HRW9 HAC9
      have q0:=cells2 (C20.out.b 0 rfl)
      obtain⟨w21,HW,C21⟩:=C20.out.set2 0 rfl (.bool true) (.int .i64 nZ)
      dsimp only [List.set] at C21
      go_wp2_with fail
      rw [←HW.out]
      have HWX:=HW
      clear HW C20 q0
      have HRW9:Hid (RowV w.heap.size [X,I,R,B,A,M] w21 (.slice p9 T c9) ((va::rst).reverse.take T)):=zh (HRW.out.keep zS (row:=some X) (by rw [HWX.out];exact zL (zH w20 X 0 (.bool true)) (zH (w20.setCell ⟨X,0,none⟩ (.bool true)) X 1 (.int .i64 nZ))) (fun q hq=>by injection hq with hq;exact .inr (by rw [←hq];exact List.mem_cons_self ..)) (fun q hq=>HRW.out.nin q (by injection hq with hq;rw [←hq];exact List.mem_cons_self ..)))
      clear HRW
      have HRW:=HRW9
      clear HRW9 HWX
      go_meet
      exact⟨by go_num,some nZ,0,rfl,zh ⟨fun _=>(by have h9:=HRN.out;rw [Co.run,HX.out] at h9;rw [←HNZ.out,←HTV.out];exact h9),fun h=>absurd rfl h⟩,C21,HRW⟩
     ·subst h
      obtain rfl:KP=2:=by have h9:=HKP.out;have h8:Co.pops 16 xb=2:=rfl;omega
      obtain⟨va,vb,rst,hst2⟩:∃v u r,st=v::u::r:=by
       have h9:=HT.out
       cases st with
       |nil=>simp at h9
       |cons v r=>
        cases r with
        |nil=>simp only [List.length_cons,List.length_nil] at h9;omega
        |cons u r=>exact ⟨v,u,r,rfl⟩
      subst hst2
      obtain⟨g9,o9,hpa,hg9,har⟩:=HAR.out (by decide)
      subst hpa
      have hT2:rst.length=T:=by have h9:=HT.out;rw [List.length_cons,List.length_cons] at h9;omega
      obtain⟨ha0,ha1⟩:=har 0 vb (by decide) (by rw [←hT2];simp)
      obtain⟨ha2,ha3⟩:=har 1 va (by decide) (by rw [←hT2];simp)
      rw [Nat.zero_mul,Nat.add_zero] at ha0 ha1
      rw [Nat.one_mul] at ha2 ha3
      obtain⟨sU,hsU⟩:∃q,vb.isSome=q:=⟨_,rfl⟩
      obtain⟨nU,hnU⟩:∃q,vb.getD 0=q:=⟨_,rfl⟩
      obtain⟨sV,hsV⟩:∃q,va.isSome=q:=⟨_,rfl⟩
      obtain⟨nV,hnV⟩:∃q,va.getD 0=q:=⟨_,rfl⟩
      rw [hsU] at ha0
      rw [hnU] at ha1
      rw [hsV] at ha2
      rw [hnV] at ha3
      have HAC:Hid (w12.cell? ⟨g9,o9,none⟩=some (.bool sU)∧w12.cell? ⟨g9,o9+1,none⟩=some (.int .i64 nU)∧w12.cell? ⟨g9,o9+2,none⟩=some (.bool sV)∧w12.cell? ⟨g9,o9+2+1,none⟩=some (.int .i64 nV)):=zh ⟨ha0,ha1,ha2,ha3⟩
      have HSU:=zh hsU
      have HNU:=zh hnU
      have HSV:=zh hsV
      have HNV:=zh hnV
      clear har ha0 ha1 ha2 ha3 hT2 hsV hnV hsU hnU
      have HNE:Hid (g9≠X):=zh (by have:=HXN.out;omega)
      have ha9:0≤xa∧xa≤10:=HVD.out.a
      have HOA:=zh ha9
      clear ha9
      obtain⟨sZ,hsZ⟩:∃q,(Co.operate 7 2 xa vb va).1.isSome=q:=⟨_,rfl⟩
      obtain⟨nZ,hnZ⟩:∃q,(Co.operate 7 2 xa vb va).1.getD 0=q:=⟨_,rfl⟩
      have HSZ:=zh hsZ
      have HNZ:=zh hnZ
      clear hsZ hnZ
      have q1:=cells3 (C12.out.b 1 rfl)
      go_upto_region 33 with fail
      clear q1
      obtain⟨w22,HW,C22⟩:=C12.out.drewE
      have hbd:Below w12.heap.size w12 w22:=by rw [HW.out];exact zCJ (zDS (zBE _ _))
      have HRW9:=zh (HRW.out.below zS hbd)
      have HAC9:Hid (w22.cell? ⟨g9,o9,none⟩=some (.bool sU)∧w22.cell? ⟨g9,o9+1,none⟩=some (.int .i64 nU)∧w22.cell? ⟨g9,o9+2,none⟩=some (.bool sV)∧w22.cell? ⟨g9,o9+2+1,none⟩=some (.int .i64 nV)):=zh (⟨zA hbd HAC.out.1,zA hbd HAC.out.2.1,zA hbd HAC.out.2.2.1,zA hbd HAC.out.2.2.2⟩)
      clear HRW HAC hbd
      have HRW:=HRW9
      have HAC:=HAC9
      clear HRW9 HAC9
      refine wp_region_held_drew (S:=fun W=>W.cell? ⟨I,1,none⟩=some (.int .i64 xa)∧W.cell? ⟨g9,o9,none⟩=some (.bool sU)∧W.cell? ⟨g9,o9+1,none⟩=some (.int .i64 nU)∧W.cell? ⟨g9,o9+2,none⟩=some (.bool sV)∧W.cell? ⟨g9,o9+2+1,none⟩=some (.int .i64 nV)) (by kernel_rfl) (by rw [←HW.out];exact⟨zB (C22.out.b 1 rfl) (j:=1) rfl,HAC.out⟩) (fun hHeld=>?_)
      rw [←HW.out] at hHeld ⊢
      clear HW C12
      refine rU 0 (some 108) ?_
      refine rU 1 (some 109) ?_
      refine rU 2 (some 110) ?_
      refine rU 3 (some 111) ?_
      refine rU 4 (some 112) ?_
      refine rU 5 (some 113) ?_
      refine rU 6 (some 114) ?_
      refine rU 7 (some 115) ?_
      clear hHeld
      refine rR1 8 (some 116) (fun K hK=>?_)
      go_simp
      have hk:=zE9 xa vb va HOA.out.1 HOA.out.2 w22
      unfold vV at hk
      rw [HSU.out,HNU.out,HSV.out,HNV.out,HSZ.out,HNZ.out] at hk
      refine hk.mono ?_
      clear hk
      rintro e w23 ⟨rfl,hb9⟩
      have C23:=zh (Mz.below C22.out hb9)
      have HRW9:=zh (HRW.out.below zS hb9)
      have HAC9:Hid (w23.cell? ⟨g9,o9,none⟩=some (.bool sU)∧w23.cell? ⟨g9,o9+1,none⟩=some (.int .i64 nU)∧w23.cell? ⟨g9,o9+2,none⟩=some (.bool sV)∧w23.cell? ⟨g9,o9+2+1,none⟩=some (.int .i64 nV)):=zh (⟨zA hb9 HAC.out.1,zA hb9 HAC.out.2.1,zA hb9 HAC.out.2.2.1,zA hb9 HAC.out.2.2.2⟩)
      clear hb9 HRW HAC C22
      have HRW:=HRW9
      have HAC:=HAC9
      clear HRW9 HAC9
      go_wp2_with fail
      refine hK.out _ _ ?_ (fun hHeld=>?_)
      ·exact⟨zB (C23.out.b 1 rfl) (j:=1) rfl,HAC.out⟩
      clear hK K
      try simp only [Act.put,q0,q1,q2]
      refine rU 9 (some 107) ?_
      refine rU 10 (some 117) ?_
      refine rU 11 (some 118) ?_
      clear hHeld
      refine rR1 12 none (fun K hK=>?_)
      have q0:=cells2 (C23.out.b 0 rfl)
      obtain⟨w24,HW,C24⟩:=C23.out.set2 0 rfl (.bool sZ) (.int .i64 nZ)
      dsimp only [List.set] at C24
      go_simp
      rw [←HW.out]
      have HWX:=HW
      clear HW C23 q0
      have HAC9:Hid (w24.cell? ⟨g9,o9,none⟩=some (.bool sU)∧w24.cell? ⟨g9,o9+1,none⟩=some (.int .i64 nU)∧w24.cell? ⟨g9,o9+2,none⟩=some (.bool sV)∧w24.cell? ⟨g9,o9+2+1,none⟩=some (.int .i64 nV)):=zh (by have h8:=HAC.out;rw [HWX.out];exact⟨zBT (zL (zH w23 X 0 (.bool sZ)) (zH (w23.setCell ⟨X,0,none⟩ (.bool sZ)) X 1 (.int .i64 nZ))) h8.1 (ne_sm HNE.out),zBT (zL (zH w23 X 0 (.bool sZ)) (zH (w23.setCell ⟨X,0,none⟩ (.bool sZ)) X 1 (.int .i64 nZ))) h8.2.1 (ne_sm HNE.out),zBT (zL (zH w23 X 0 (.bool sZ)) (zH (w23.setCell ⟨X,0,none⟩ (.bool sZ)) X 1 (.int .i64 nZ))) h8.2.2.1 (ne_sm HNE.out),zBT (zL (zH w23 X 0 (.bool sZ)) (zH (w23.setCell ⟨X,0,none⟩ (.bool sZ)) X 1 (.int .i64 nZ))) h8.2.2.2 (ne_sm HNE.out)⟩)
      clear HAC
      have HAC:=HAC9
      clear HAC9
      have HRW9:Hid (RowV w.heap.size [X,I,R,B,A,M] w24 (.slice p9 T c9) ((va::vb::rst).reverse.take T)):=zh (HRW.out.keep zS (row:=some X) (by rw [HWX.out];exact zL (zH w23 X 0 (.bool sZ)) (zH (w23.setCell ⟨X,0,none⟩ (.bool sZ)) X 1 (.int .i64 nZ))) (fun q hq=>by injection hq with hq;exact .inr (by rw [←hq];exact List.mem_cons_self ..)) (fun q hq=>HRW.out.nin q (by injection hq with hq;rw [←hq];exact List.mem_cons_self ..)))
      clear HRW
      have HRW:=HRW9
      clear HRW9 HWX
      refine hK.out _ _ ?_ (fun hHeld=>?_)
      ·exact⟨zB (C24.out.b 1 rfl) (j:=1) rfl,HAC.out⟩
      clear hK K
      try simp only [Act.put]
      refine rU 13 (some 18) ?_
      refine wpAnyH_done (by kernel_rfl) ?_ _
      clear hHeld
      go_wp2_with fail
      go_meet
      exact⟨by go_num,(Co.operate 7 2 xa vb va).1,(Co.operate 7 2 xa vb va).2,rfl,zh ⟨fun h0=>by have h9:=HRN.out;rw [Co.run,HX.out] at h9;exact(if_pos h0).symm.trans h9,fun h0=>by have h9:=HRN.out;rw [Co.run,HX.out] at h9;exact(if_neg h0).symm.trans h9⟩,(by rw [HSZ.out,HNZ.out];exact C24),HRW⟩
     ·subst h
      obtain rfl:KP=1:=by have h9:=HKP.out;have h8:Co.pops 17 xb=1:=rfl;omega
      obtain⟨va,rst,hst2⟩:∃v r,st=v::r:=by
       have h9:=HT.out
       cases st with
       |nil=>simp at h9
       |cons v r=>exact ⟨v,r,rfl⟩
      subst hst2
      obtain⟨g9,o9,hpa,hg9,har⟩:=HAR.out (by decide)
      subst hpa
      have hT2:rst.length=T:=by have h9:=HT.out;rw [List.length_cons] at h9;omega
      obtain⟨ha0,ha1⟩:=har 0 va (by decide) (by rw [←hT2];simp)
      rw [Nat.zero_mul,Nat.add_zero] at ha0 ha1
      obtain⟨sV,hsV⟩:∃q,va.isSome=q:=⟨_,rfl⟩
      obtain⟨nV,hnV⟩:∃q,va.getD 0=q:=⟨_,rfl⟩
      rw [hsV] at ha0
      rw [hnV] at ha1
      have HAC:Hid (w12.cell? ⟨g9,o9,none⟩=some (.bool sV)∧w12.cell? ⟨g9,o9+1,none⟩=some (.int .i64 nV)):=zh ⟨ha0,ha1⟩
      have HSV:=zh hsV
      have HNV:=zh hnV
      clear har ha0 ha1 hT2 hsV hnV
      obtain⟨tv,htv⟩:∃q,Co.truth va=q:=⟨_,rfl⟩
      have HTV:=zh htv
      clear htv
      obtain⟨nZ,hnZ⟩:∃q,Co.bit (tv)=q:=⟨_,rfl⟩
      have HNZ:=zh hnZ
      clear hnZ
      have qa:=HAC.out
      have q1:=cells3 (C12.out.b 1 rfl)
      go_wp2_with fail
      clear q1
      clear qa
      have hk:=zBM va w12
      unfold vV at hk
      rw [HSV.out,HNV.out,HTV.out] at hk
      refine hk.mono ?_
      clear hk
      rintro e w25 ⟨rfl,hb9⟩
      have C25:=zh (Mz.below C12.out hb9)
      have HRW9:=zh (HRW.out.below zS hb9)
      have HAC9:Hid (w25.cell? ⟨g9,o9,none⟩=some (.bool sV)∧w25.cell? ⟨g9,o9+1,none⟩=some (.int .i64 nV)):=zh (⟨zA hb9 HAC.out.1,zA hb9 HAC.out.2⟩)
      clear hb9 HRW HAC C12
      have HRW:=HRW9
      have HAC:=HAC9
      clear HRW9 HAC9
      go_wp2_with fail
      have hk:=zAG (tv) w25
      unfold vV at hk
      dsimp only [Option.isSome,Option.getD] at hk
      rw [HNZ.out] at hk
      refine hk.mono ?_
      clear hk
      rintro e w26 ⟨rfl,hb9⟩
      have C26:=zh (Mz.below C25.out hb9)
      have HRW9:=zh (HRW.out.below zS hb9)
      have HAC9:Hid (w26.cell? ⟨g9,o9,none⟩=some (.bool sV)∧w26.cell? ⟨g9,o9+1,none⟩=some (.int .i64 nV)):=zh (⟨zA hb9 HAC.out.1,zA hb9 HAC.out.2⟩)
      clear hb9 HRW HAC C25
      have HRW:=HRW9
      have HAC:=HAC9
      clear HRW9 HAC9
      have q0:=cells2 (C26.out.b 0 rfl)
      obtain⟨w27,HW,C27⟩:=C26.out.set2 0 rfl (.bool true) (.int .i64 nZ)
      dsimp only [List.set] at C27
      go_wp2_with fail
      rw [←HW.out]
      have HWX:=HW
      clear HW C26 q0
      have HRW9:Hid (RowV w.heap.size [X,I,R,B,A,M] w27 (.slice p9 T c9) ((va::rst).reverse.take T)):=zh (HRW.out.keep zS (row:=some X) (by rw [HWX.out];exact zL (zH w26 X 0 (.bool true)) (zH (w26.setCell ⟨X,0,none⟩ (.bool true)) X 1 (.int .i64 nZ))) (fun q hq=>by injection hq with hq;exact .inr (by rw [←hq];exact List.mem_cons_self ..)) (fun q hq=>HRW.out.nin q (by injection hq with hq;rw [←hq];exact List.mem_cons_self ..)))
      clear HRW
      have HRW:=HRW9
      clear HRW9 HWX
      go_meet
      exact⟨by go_num,some nZ,0,rfl,zh ⟨fun _=>(by have h9:=HRN.out;rw [Co.run,HX.out] at h9;rw [←HNZ.out,←HTV.out];exact h9),fun h=>absurd rfl h⟩,C27,HRW⟩
     ·subst h
      obtain rfl:KP=0:=by have h9:=HKP.out;have h8:Co.pops 18 xb=0:=rfl;omega
      have ha9:0≤xa∧xa≤4000:=HVD.out.a
      have q1:=cells3 (C12.out.b 1 rfl)
      go_wp2_with fail
      clear q1
      have hst0:T=st.length:=by have:=HT.out;omega
      have hxn:((xa.toNat:Nat):Int)=xa:=Int.toNat_of_nonneg ha9.1
      go_roundg (5000 -(j+1))
      case measure=>omega
      case rel=>exact ⟨j+1,xa.toNat,st,_,rfl,by go_num,by go_num,by omega,rfl,by omega,by omega,zh (by rw [show 5000 -(j+1)=F from by have:=HFJ.out;omega];have h9:=HRN.out;rw [Co.run,HX.out] at h9;simpa [show ¬xa<0 from by omega] using h9),zh (C12.out.tl.tl),zh (by have h9:=HRW.out.wk zS (l':= [R,B,A,M]) (fun q hq=> .inr (List.mem_cons_of_mem _ (List.mem_cons_of_mem _ hq)));rw [List.take_of_length_le (by rw [List.length_reverse];omega)] at h9;exact h9)⟩
     ·subst h
      obtain rfl:KP=1:=by have h9:=HKP.out;have h8:Co.pops 19 xb=1:=rfl;omega
      obtain⟨va,rst,hst2⟩:∃v r,st=v::r:=by
       have h9:=HT.out
       cases st with
       |nil=>simp at h9
       |cons v r=>exact ⟨v,r,rfl⟩
      subst hst2
      obtain⟨g9,o9,hpa,hg9,har⟩:=HAR.out (by decide)
      subst hpa
      have hT2:rst.length=T:=by have h9:=HT.out;rw [List.length_cons] at h9;omega
      obtain⟨ha0,ha1⟩:=har 0 va (by decide) (by rw [←hT2];simp)
      rw [Nat.zero_mul,Nat.add_zero] at ha0 ha1
      obtain⟨sV,hsV⟩:∃q,va.isSome=q:=⟨_,rfl⟩
      obtain⟨nV,hnV⟩:∃q,va.getD 0=q:=⟨_,rfl⟩
      rw [hsV] at ha0
      rw [hnV] at ha1
      have HAC:Hid (w12.cell? ⟨g9,o9,none⟩=some (.bool sV)∧w12.cell? ⟨g9,o9+1,none⟩=some (.int .i64 nV)):=zh ⟨ha0,ha1⟩
      have HSV:=zh hsV
      have HNV:=zh hnV
      clear har ha0 ha1 hT2 hsV hnV
      have HXA:Hid (0≤xa∧xa≤4000):=zh HVD.out.a
      obtain⟨tv,htv⟩:∃q,Co.truth va=q:=⟨_,rfl⟩
      have HTV:=zh htv
      clear htv
      have q1:=cells3 (C12.out.b 1 rfl)
      go_upto_region 38 with fail
      clear q1
      obtain⟨w28,HW,C28⟩:=C12.out.drewE
      have hbd:Below w12.heap.size w12 w28:=by rw [HW.out];exact zCJ (zDS (zBE _ _))
      have HRW9:=zh (HRW.out.below zS hbd)
      have HAC9:Hid (w28.cell? ⟨g9,o9,none⟩=some (.bool sV)∧w28.cell? ⟨g9,o9+1,none⟩=some (.int .i64 nV)):=zh (⟨zA hbd HAC.out.1,zA hbd HAC.out.2⟩)
      clear HRW HAC hbd
      have HRW:=HRW9
      have HAC:=HAC9
      clear HRW9 HAC9
      refine wp_region_held_drew (S:=fun W=>W.cell? ⟨I,0,none⟩=some (.int .i64 19)∧W.cell? ⟨g9,o9,none⟩=some (.bool sV)∧W.cell? ⟨g9,o9+1,none⟩=some (.int .i64 nV)) (by kernel_rfl) (by rw [←HW.out];exact⟨zB (C28.out.b 1 rfl) (j:=0) rfl,HAC.out⟩) (fun hHeld=>?_)
      rw [←HW.out] at hHeld ⊢
      clear HW C12
      refine rU 0 (some 126) ?_
      refine rU 1 (some 127) ?_
      refine rU 2 (some 128) ?_
      refine rU 4 (some 130) ?_
      refine rU 5 (some 131) ?_
      refine rU 6 (some 132) ?_
      clear hHeld
      refine rR1 3 (some 129) (fun K hK=>?_)
      go_simp
      have hk:=zBM va w28
      unfold vV at hk
      rw [HSV.out,HNV.out,HTV.out] at hk
      refine hk.mono ?_
      clear hk
      rintro e w29 ⟨rfl,hb9⟩
      have C29:=zh (Mz.below C28.out hb9)
      have HRW9:=zh (HRW.out.below zS hb9)
      have HAC9:Hid (w29.cell? ⟨g9,o9,none⟩=some (.bool sV)∧w29.cell? ⟨g9,o9+1,none⟩=some (.int .i64 nV)):=zh (⟨zA hb9 HAC.out.1,zA hb9 HAC.out.2⟩)
      clear hb9 HRW HAC C28
      have HRW:=HRW9
      have HAC:=HAC9
      clear HRW9 HAC9
      go_wp2_with fail
      refine hK.out _ _ ?_ (fun hHeld=>?_)
      ·exact⟨zB (C29.out.b 1 rfl) (j:=0) rfl,HAC.out⟩
      clear hK K
      try simp only [Act.put,q0,q1,q2]
      refine rU 7 (some 133) ?_
      refine wpAnyH_done (by kernel_rfl) ?_ _
      clear hHeld
      obtain⟨hx0,hx4⟩:=HXA.out
      have hT2:rst.length=T:=by have h9:=HT.out;rw [List.length_cons] at h9;omega
      have hst9:rst.length≤j:=by have h9:=HT.out;rw [List.length_cons] at h9;omega
      have HROW:Hid (RowV w.heap.size [R,B,A,M] w29 (.slice p9 T c9) rst.reverse):=zh (by have h9:=HRW.out.wk zS (l':= [R,B,A,M]) (fun q hq=> .inr (List.mem_cons_of_mem _ (List.mem_cons_of_mem _ hq)));rw [List.reverse_cons,List.take_append_of_le_length (by rw [List.length_reverse];omega),List.take_of_length_le (by rw [List.length_reverse];omega)] at h9;exact h9)
      rw [←hT2] at HROW ⊢
      have hxn:((xa.toNat:Nat):Int)=xa:=Int.toNat_of_nonneg hx0
      cases tv
      ·have q1:=cells3 (C29.out.b 1 rfl)
       go_wp2_with fail
       clear q1
       go_roundg (5000 -(j+1))
       case measure=>omega
       case rel=>exact ⟨j+1,xa.toNat,rst,_,rfl,by go_num,by go_num,by omega,rfl,by omega,by omega,zh (by rw [show 5000 -(j+1)=F from by have:=HFJ.out;omega];have h9:=HRN.out;rw [Co.run,HX.out] at h9;simpa [HTV.out,show ¬xa<0 from by omega] using h9),zh (C29.out.tl.tl),zh HROW.out⟩
      ·have q1:=cells3 (C29.out.b 1 rfl)
       go_wp2_with fail
       clear q1
       go_roundg (5000 -(j+1))
       case measure=>omega
       case rel=>exact ⟨j+1,pc+1,rst,_,rfl,by go_num,by go_num,by omega,rfl,by omega,by omega,zh (by rw [show 5000 -(j+1)=F from by have:=HFJ.out;omega];have h9:=HRN.out;rw [Co.run,HX.out] at h9;simpa [HTV.out] using h9),zh (C29.out.tl.tl),zh HROW.out⟩
     ·subst h
      obtain rfl:KP=1:=by have h9:=HKP.out;have h8:Co.pops 20 xb=1:=rfl;omega
      obtain⟨va,rst,hst2⟩:∃v r,st=v::r:=by
       have h9:=HT.out
       cases st with
       |nil=>simp at h9
       |cons v r=>exact ⟨v,r,rfl⟩
      subst hst2
      obtain⟨g9,o9,hpa,hg9,har⟩:=HAR.out (by decide)
      subst hpa
      have hT2:rst.length=T:=by have h9:=HT.out;rw [List.length_cons] at h9;omega
      obtain⟨ha0,ha1⟩:=har 0 va (by decide) (by rw [←hT2];simp)
      rw [Nat.zero_mul,Nat.add_zero] at ha0 ha1
      obtain⟨sV,hsV⟩:∃q,va.isSome=q:=⟨_,rfl⟩
      obtain⟨nV,hnV⟩:∃q,va.getD 0=q:=⟨_,rfl⟩
      rw [hsV] at ha0
      rw [hnV] at ha1
      have HAC:Hid (w12.cell? ⟨g9,o9,none⟩=some (.bool sV)∧w12.cell? ⟨g9,o9+1,none⟩=some (.int .i64 nV)):=zh ⟨ha0,ha1⟩
      have HSV:=zh hsV
      have HNV:=zh hnV
      clear har ha0 ha1 hT2 hsV hnV
      have HXA:Hid (0≤xa∧xa≤4000):=zh HVD.out.a
      obtain⟨tv,htv⟩:∃q,Co.truth va=q:=⟨_,rfl⟩
      have HTV:=zh htv
      clear htv
      have q1:=cells3 (C12.out.b 1 rfl)
      go_upto_region 38 with fail
      clear q1
      obtain⟨w30,HW,C30⟩:=C12.out.drewE
      have hbd:Below w12.heap.size w12 w30:=by rw [HW.out];exact zCJ (zDS (zBE _ _))
      have HRW9:=zh (HRW.out.below zS hbd)
      have HAC9:Hid (w30.cell? ⟨g9,o9,none⟩=some (.bool sV)∧w30.cell? ⟨g9,o9+1,none⟩=some (.int .i64 nV)):=zh (⟨zA hbd HAC.out.1,zA hbd HAC.out.2⟩)
      clear HRW HAC hbd
      have HRW:=HRW9
      have HAC:=HAC9
      clear HRW9 HAC9
      refine wp_region_held_drew (S:=fun W=>W.cell? ⟨I,0,none⟩=some (.int .i64 20)∧W.cell? ⟨g9,o9,none⟩=some (.bool sV)∧W.cell? ⟨g9,o9+1,none⟩=some (.int .i64 nV)) (by kernel_rfl) (by rw [←HW.out];exact⟨zB (C30.out.b 1 rfl) (j:=0) rfl,HAC.out⟩) (fun hHeld=>?_)
      rw [←HW.out] at hHeld ⊢
      clear HW C12
      refine rU 0 (some 126) ?_
      refine rU 1 (some 127) ?_
      refine rU 2 (some 128) ?_
      refine rU 4 (some 130) ?_
      refine rU 5 (some 131) ?_
      refine rU 6 (some 132) ?_
      clear hHeld
      refine rR1 3 (some 129) (fun K hK=>?_)
      go_simp
      have hk:=zBM va w30
      unfold vV at hk
      rw [HSV.out,HNV.out,HTV.out] at hk
      refine hk.mono ?_
      clear hk
      rintro e w31 ⟨rfl,hb9⟩
      have C31:=zh (Mz.below C30.out hb9)
      have HRW9:=zh (HRW.out.below zS hb9)
      have HAC9:Hid (w31.cell? ⟨g9,o9,none⟩=some (.bool sV)∧w31.cell? ⟨g9,o9+1,none⟩=some (.int .i64 nV)):=zh (⟨zA hb9 HAC.out.1,zA hb9 HAC.out.2⟩)
      clear hb9 HRW HAC C30
      have HRW:=HRW9
      have HAC:=HAC9
      clear HRW9 HAC9
      go_wp2_with fail
      refine hK.out _ _ ?_ (fun hHeld=>?_)
      ·exact⟨zB (C31.out.b 1 rfl) (j:=0) rfl,HAC.out⟩
      clear hK K
      try simp only [Act.put,q0,q1,q2]
      refine rU 7 (some 133) ?_
      refine wpAnyH_done (by kernel_rfl) ?_ _
      clear hHeld
      obtain⟨hx0,hx4⟩:=HXA.out
      have hT2:rst.length=T:=by have h9:=HT.out;rw [List.length_cons] at h9;omega
      have hst9:rst.length≤j:=by have h9:=HT.out;rw [List.length_cons] at h9;omega
      have HROW:Hid (RowV w.heap.size [R,B,A,M] w31 (.slice p9 T c9) rst.reverse):=zh (by have h9:=HRW.out.wk zS (l':= [R,B,A,M]) (fun q hq=> .inr (List.mem_cons_of_mem _ (List.mem_cons_of_mem _ hq)));rw [List.reverse_cons,List.take_append_of_le_length (by rw [List.length_reverse];omega),List.take_of_length_le (by rw [List.length_reverse];omega)] at h9;exact h9)
      rw [←hT2] at HROW ⊢
      have hxn:((xa.toNat:Nat):Int)=xa:=Int.toNat_of_nonneg hx0
      cases tv
      ·have q1:=cells3 (C31.out.b 1 rfl)
       go_wp2_with fail
       clear q1
       go_roundg (5000 -(j+1))
       case measure=>omega
       case rel=>exact ⟨j+1,pc+1,rst,_,rfl,by go_num,by go_num,by omega,rfl,by omega,by omega,zh (by rw [show 5000 -(j+1)=F from by have:=HFJ.out;omega];have h9:=HRN.out;rw [Co.run,HX.out] at h9;simpa [HTV.out] using h9),zh (C31.out.tl.tl),zh HROW.out⟩
      ·have q1:=cells3 (C31.out.b 1 rfl)
       go_wp2_with fail
       clear q1
       go_roundg (5000 -(j+1))
       case measure=>omega
       case rel=>exact ⟨j+1,xa.toNat,rst,_,rfl,by go_num,by go_num,by omega,rfl,by omega,by omega,zh (by rw [show 5000 -(j+1)=F from by have:=HFJ.out;omega];have h9:=HRN.out;rw [Co.run,HX.out] at h9;simpa [HTV.out,show ¬xa<0 from by omega] using h9),zh (C31.out.tl.tl),zh HROW.out⟩
     ·subst h
      obtain rfl:KP=1:=by have h9:=HKP.out;have h8:Co.pops 22 xb=1:=rfl;omega
      obtain⟨va,rst,hst2⟩:∃v r,st=v::r:=by
       have h9:=HT.out
       cases st with
       |nil=>simp at h9
       |cons v r=>exact ⟨v,r,rfl⟩
      subst hst2
      obtain⟨g9,o9,hpa,hg9,har⟩:=HAR.out (by decide)
      subst hpa
      have hT2:rst.length=T:=by have h9:=HT.out;rw [List.length_cons] at h9;omega
      obtain⟨ha0,ha1⟩:=har 0 va (by decide) (by rw [←hT2];simp)
      rw [Nat.zero_mul,Nat.add_zero] at ha0 ha1
      obtain⟨sV,hsV⟩:∃q,va.isSome=q:=⟨_,rfl⟩
      obtain⟨nV,hnV⟩:∃q,va.getD 0=q:=⟨_,rfl⟩
      rw [hsV] at ha0
      rw [hnV] at ha1
      have HAC:Hid (w12.cell? ⟨g9,o9,none⟩=some (.bool sV)∧w12.cell? ⟨g9,o9+1,none⟩=some (.int .i64 nV)):=zh ⟨ha0,ha1⟩
      have HSV:=zh hsV
      have HNV:=zh hnV
      clear har ha0 ha1 hT2 hsV hnV
      have h9:((va,0,true):Co.Res)=(r1,r2,r3):=by have h9:=HRN.out;rw [Co.run,HX.out] at h9;exact h9
      injection h9 with e1 h9
      injection h9 with e2 e3
      subst e1 e2 e3
      clear HRN
      have HAQ:=HAC
      have qa:=HAC.out
      have q2:=cells2 (C12.out.b 2 rfl)
      have q1:=cells3 (C12.out.b 1 rfl)
      obtain⟨w32,HW,C32⟩:=C12.out.set2 2 rfl (.bool sV) (.int .i64 nV)
      dsimp only [List.set] at C32
      go_wp2_with fail
      rw [←HW.out]
      clear HW C12 q2 q1
      exact Mz.retA2 C32.out 2 rfl Tryz.results28 rfl rfl rfl rfl ⟨_,Tryz.underlying43⟩ (by kernel_rfl) ⟨by rw [HSV.out,HNV.out];rfl,C32.out.gr.fresh⟩
     ·subst h
      obtain rfl:KP=0:=by have h9:=HKP.out;have h8:Co.pops 25 xb=0:=rfl;omega
      have h9:((none,0,false):Co.Res)=(r1,r2,r3):=(show((none,0,false):Co.Res)=(r1,r2,r3) from by have h9:=HRN.out;rw [Co.run,HX.out] at h9;cases st with|nil=>exact h9|cons v r=>exact h9)
      injection h9 with e1 h9
      injection h9 with e2 e3
      subst e1 e2 e3
      clear HRN
      have q2:=cells2 (C12.out.b 2 rfl)
      have q5:=cells5 (C12.out.b 5 rfl)
      obtain⟨w33,HW,C33⟩:=C12.out.set2 2 rfl (.bool false) (.int .i64 0)
      dsimp only [List.set] at C33
      go_wp2_with fail
      rw [←HW.out]
      clear HW C12 q2 q5
      exact Mz.retA2 C33.out 2 rfl Tryz.results28 rfl rfl rfl rfl ⟨_,Tryz.underlying43⟩ (by kernel_rfl) ⟨rfl,C33.out.gr.fresh⟩
    case rest=>
    clear C12
    obtain⟨rfl,v,f,rfl,HRN2,CW,HRV⟩:=hcut
    obtain⟨wy,hwy⟩:∃q,q=wc:=⟨_,rfl⟩
    rw [←hwy] at CW HRV ⊢
    clear hwy
    obtain⟨sX,hsX⟩:∃q,v.isSome=q:=⟨_,rfl⟩
    obtain⟨nX,hnX⟩:∃q,v.getD 0=q:=⟨_,rfl⟩
    rw [hsX,hnX] at CW
    by_cases hf0:f=0
    ·subst hf0
     have HRN3:=zh (HRN2.out.1 rfl)
     clear HRN2
     have HSX:=zh hsX
     have HNX:=zh hnX
     clear hsX hnX
     obtain⟨i0,hi0,hz0,hz1,hz2⟩:=info_parts vInfo
     obtain⟨Y,wg,HG,HWG,hxg,CG⟩:=CW.out.boxE #[.bool sX,.int .i64 nX] 43
     have HRG:=zh (HRV.out.box zS HG.out (.cells #[.bool sX,.int .i64 nX] 43))
     rw [←HWG.out] at HRG
     have HSR:Hid (SrcAt wg vC (.slice (some ⟨Y,0,none⟩) 1 1) [v]):=zh (SrcAt.of_blk (CG.out.b 0 rfl) (by unfold vC;rw [HSX.out,HNX.out]))
     go_upto_region 44 with fail
     refine wp_region_lit ?_
     refine wpList_plain rfl (fun K hK=>?_)
     go_simp
     refine hK _ _ ?_
     clear hK K
     try simp only [Act.put,q0,q1,q2]
     have q0:=cells2 (CW.out.b 0 rfl)
     refine wpList_plain rfl (fun K hK=>?_)
     go_simp
     refine hK _ _ ?_
     clear hK K q0
     try simp only [Act.put,q0,q1,q2]
     refine wpList_plain rfl (fun K hK=>?_)
     go_simp
     rw [←HG.out,←HWG.out]
     refine hK _ _ ?_
     clear hK K
     try simp only [Act.put,q0,q1,q2]
     have htk:(st.reverse.take T).length=T:=HTK.out
     refine zDL zL1 zS rfl _ _ 90 rfl i0 (.agg #[.bool false,.int .i64 0]) 16 Tryz.underlying90 hi0 hz0 hz1 hz2 rfl (by decide) _ [v] rfl rfl HRG.out HSR.out (fun _ _=>trivial) (fun x _=>zSX x) (by have h8:=HST.out;rw [htk];unfold maxLen;simp only [List.length_cons,List.length_nil];omega) (by have h8:=HST.out;rw [htk];simp only [List.length_cons,List.length_nil];omega) CG.out.le ?_ (fun q hq=>by rcases List.mem_cons.1 hq with e|hq;rw [e];exact(CG.out.lt 0 rfl).2;exact(CG.out.lts (List.mem_cons_of_mem _ hq)).2.1)
     intro v9 wa hr9 hg9
     have CA:=zh (My.push CG.out hg9 (fun q hq=>⟨(HRG.out.ge hq).1,fun hm=>HRG.out.nin q hm hq⟩))
     obtain⟨p8,c8,hv9⟩:=own_form hr9.own
     have hl9:(st.reverse.take T++ [v]).length=T+1:=by rw [List.length_append,htk];rfl
     rw [hl9] at hv9
     subst hv9
     have HRZ:Hid (RowV w.heap.size [R,B,A,M] wa (.slice p8 (T+1) c8) (v::st.drop KP).reverse):=zh (by
      have h9:=hr9.wk zS (l':= [R,B,A,M]) (fun q hq=> .inr (List.mem_cons_of_mem _ (List.mem_cons_of_mem _ (List.mem_cons_of_mem _ hq))))
      rw [List.reverse_cons,show(st.drop KP).reverse=st.reverse.take T from by rw [List.reverse_drop,HT.out,Nat.add_sub_cancel]]
      exact h9)
     have hdl:(v::st.drop KP).length=T+1:=by rw [List.length_cons,List.length_drop,HT.out];omega
     have hst6:T≤j:=by have h9:=HT.out;omega
     clear hr9 hg9 HRG HSR CG HG HWG htk hl9
     go_wp2_with fail
     go_roundg (5000 -(j+1))
     case measure=>omega
     case rel=>exact ⟨j+1,pc+1,v::st.drop KP,_,rfl,by go_num,by go_num,by omega,rfl,by omega,by rw [hdl];omega,zh (by rw [show 5000 -(j+1)=F from by have:=HFJ.out;omega];exact HRN3.out),zh (CA.out.tl.tl.tl),HRZ⟩
    ·have h9:=HRN2.out.2 hf0
     injection h9 with e1 h9
     injection h9 with e2 e3
     subst e1 e2 e3
     have hfb:((f:Int) == 0)=false:=beq_eq_false_iff_ne.2 (by omega)
     have hff:¬(f:Int)=0:=by omega
     have q2:=cells2 (CW.out.b 2 rfl)
     have q5:=cells5 (CW.out.b 5 rfl)
     obtain⟨w34,HW,C34⟩:=CW.out.set2 2 rfl (.bool false) (.int .i64 0)
     dsimp only [List.set] at C34
     go_wp2_with fail
     rw [←HW.out]
     clear HW CW q2 q5
     exact Mz.retA2 C34.out 2 rfl Tryz.results28 rfl rfl rfl rfl ⟨_,Tryz.underlying43⟩ (by kernel_rfl) ⟨rfl,C34.out.gr.fresh⟩
   ·have h9:((none,0,false):Co.Res)=(r1,r2,r3):=(zRV (List.getElem?_eq_none (by rw [HLN.out];omega))).symm.trans HRN.out
    injection h9 with e1 h9
    injection h9 with e2 e3
    subst e1 e2 e3
    clear HRN
    have q0:=cells2 (CR.out.b 0 rfl)
    have q3:=cells5 (CR.out.b 3 rfl)
    obtain⟨w7,HW,C7⟩:=CR.out.set2 0 rfl (.bool false) (.int .i64 0)
    dsimp only [List.set] at C7
    go_wp2_with fail
    rw [←HW.out]
    clear HW CR q0 q3
    exact Mz.retA2 C7.out 0 rfl Tryz.results28 rfl rfl rfl rfl ⟨_,Tryz.underlying43⟩ (by kernel_rfl) ⟨rfl,C7.out.gr.fresh⟩
  ·obtain⟨w_,hw_⟩:∃q,q=wr:=⟨_,rfl⟩
   rw [←hw_] at CR HRW ⊢
   clear hw_
   obtain rfl:j=5000:=by omega
   have h9:((none,0,false):Co.Res)=(r1,r2,r3):=(show Co.run 7 2 a b l (5000 -5000) pc st=(none,0,false) from by rw [Nat.sub_self,Co.run]).symm.trans HRN.out
   injection h9 with e1 h9
   injection h9 with e2 e3
   subst e1 e2 e3
   clear HRN
   have q0:=cells2 (CR.out.b 0 rfl)
   have q3:=cells5 (CR.out.b 3 rfl)
   obtain⟨w6,HW,C6⟩:=CR.out.set2 0 rfl (.bool false) (.int .i64 0)
   dsimp only [List.set] at C6
   go_wp2_with fail
   rw [←HW.out]
   clear HW CR q0 q3
   exact Mz.retA2 C6.out 0 rfl Tryz.results28 rfl rfl rfl rfl ⟨_,Tryz.underlying43⟩ (by kernel_rfl) ⟨rfl,C6.out.gr.fresh⟩
end Cw
end Go.Proofs.YtcnmfcgmnkncaaaGreatDoor
