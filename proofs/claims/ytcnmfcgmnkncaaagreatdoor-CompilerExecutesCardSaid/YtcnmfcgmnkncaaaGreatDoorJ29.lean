/-
  evaluate, walked.
-/
import Derived.Test.YtcnmfcgmnkncaaaGreatDoorJ28
namespace Go.Proofs.YtcnmfcgmnkncaaaGreatDoor
namespace Cw
open Go.RowKit Go.Maps Pw
theorem Mz.elemM {B0 V:Nat} {w W:World} {o0 ow:List Nat} {Q:World→Prop} {bs:List Bk} {os:List (World→Prop)} (h:Mz B0 V w o0 Q ow bs os W) (i:Nat) {p:Option Addr} {N c:Nat} {l:List Tr.E} (hi:os[i]? =some (RE (.slice p N c) l)) {j:Nat} {x:Tr.E} (hx:l[j]? =some x):
 ∃b oo pa ca,p=some ⟨b,oo,none⟩∧b<W.heap.size∧BdE x∧Hid (Mz B0 V w o0 Q ow bs (CE b (oo+j*6) x (.slice pa x.args.length ca)::RE (.slice pa x.args.length ca) x.args::os) W):=by
 obtain⟨b,oo,aa,hp,hb,hc,hbd,hs⟩:=SlE.get (h.o i hi) hx
 obtain⟨pa,ca,rfl,_⟩:=hs.form
 rw [z6] at hb
 exact⟨b,oo,pa,ca,hp,hb,hbd,zh ((h.get re_mn hs).get ce_mn hc)⟩
theorem zMD {k o i:Int} {nm:ByteArray} {a:Bool} {l:List Tr.E} (h:Tr.validE (.mk k o i nm a l)=true) (hk:k=8∨k=9):∃x,l= [x]∧Tr.validE x=true:=by
 obtain⟨h1,h2⟩:=Co.zF h
 have h3:l.length=1:=by
  unfold Tr.okE at h2
  rcases hk with rfl|rfl<;>(simp at h2;omega)
 match l,h3 with
 | [x],_=>exact ⟨x,rfl,zG h1 (j:=0) rfl⟩
theorem zRE {o i:Int} {nm:ByteArray} {a:Bool} {l:List Tr.E} (h:Tr.validE (.mk 10 o i nm a l)=true):∃x y,l= [x,y]∧Tr.validE x=true∧Tr.validE y=true∧0≤o∧o≤12:=by
 obtain⟨h1,h2⟩:=Co.zF h
 have h3:l.length=2∧0≤o∧o≤12:=by
  unfold Tr.okE at h2
  simp at h2
  omega
 obtain⟨h3,h4,h5⟩:=h3
 match l,h3 with
 | [x,y],_=>exact ⟨x,y,rfl,zG h1 (j:=0) rfl,zG h1 (j:=1) rfl,h4,h5⟩
theorem zPW {k o i:Int} {nm:ByteArray} {a:Bool} {l:List Tr.E} (h:Co.cov (.mk k o i nm a l)=true):(k=0∨k=1∨k=3∨k=8∨k=9∨k=10)∧((k=8∨k=9∨k=10)→Co.covs l=true):=by
 rw [Co.cov] at h
 by_cases h0:k=0∨k=1
 ·exact⟨by omega,fun h=>by omega⟩
 ·rw [if_neg h0] at h
  by_cases h3:k=3
  ·exact⟨by omega,fun h=>by omega⟩
  ·rw [if_neg h3] at h
   by_cases h8:k=8∨k=9∨k=10
   ·rw [if_pos h8] at h
    exact⟨by omega,fun _=>h⟩
   ·rw [if_neg h8] at h
    cases h
theorem zIS {x:Tr.E} (h:Co.covs [x]=true):Co.cov x=true:=by
 rw [Co.covs,Bool.and_eq_true] at h
 exact h.1
theorem zM0 {x y:Tr.E} (h:Co.covs [x,y]=true):Co.cov x=true∧Co.cov y=true:=by
 rw [Co.covs,Bool.and_eq_true] at h
 exact⟨h.1,zIS h.2⟩
theorem sv_of {w W:World} {bs:List Bk} {os:List (World→Prop)} {E A B b o:Nat} {x:Tr.E} {a e0 e1 e2 e3 e4 e5 a0 a1 b0 b1:Value} {tE tA tB:TypeId} (h:Mz 0 0 w [] (fun _=>True) [] bs os W) (i j k q:Nat) (hE:bs[i]? =some (E,#[e0,e1,e2,e3,e4,e5],tE)) (hA:bs[j]? =some (A,#[a0,a1],tA)) (hB:bs[k]? =some (B,#[b0,b1],tB)) (hq:os[q]? =some (CE b o x a)):
 W.cell? ⟨E,5,none⟩=some e5∧CellsE W b o x a∧W.cell? ⟨A,0,none⟩=some a0∧W.cell? ⟨A,1,none⟩=some a1∧W.cell? ⟨B,0,none⟩=some b0∧W.cell? ⟨B,1,none⟩=some b1:=
 ⟨zB (h.b i hE) (j:=5) rfl,h.rd q hq,zB (h.b j hA) (j:=0) rfl,zB (h.b j hA) (j:=1) rfl,zB (h.b k hB) (j:=0) rfl,zB (h.b k hB) (j:=1) rfl⟩
def EvC (A B:Co.Val) (d:Nat):Prop:=∀(e:Tr.E) (a:Value) (w:World),e.deep≤d→Tr.validE e=true→Co.cov e=true→BdE e→SlE w a e.args→
    Calls Tryz.prog 22 #[exprV e a,vV A,vV B] w fun r w'=>r= .returned (.tuple #[vV (Co.eval 7 2 A B e).1,.int .i64 (Co.eval 7 2 A B e).2.1,.bool (Co.eval 7 2 A B e).2.2])∧Below w.heap.size w w'
set_option maxRecDepth 100000 in
set_option maxHeartbeats 60000000 in
theorem zIR (A B:Co.Val):∀d:Nat,EvC A B d:=by
 intro d
 induction d with
 |zero=>intro e a w hd;exact absurd (Tr.E.deep_pos e) (by omega)
 |succ d ih=>
  intro e a w hd hv hcv hbd hS
  have IH:=zh ih
  have HBE:=zh hbd
  have HV:=zh hv
  have HCV:=zh hcv
  obtain⟨k,o,i,nm,at_,l⟩:=e
  have hS2:SlE w a l:=hS
  have HD:Hid (∀(j:Nat) (x:Tr.E),l[j]? =some x→x.deep≤d):=zh (fun j x hx=>Tr.E.deep_args (e:= .mk k o i nm at_ l) hd hx)
  obtain⟨p,c,rfl,_⟩:=hS2.form
  obtain⟨N,hN⟩:∃q,l.length=q:=⟨_,rfl⟩
  rw [hN] at hS2 ⊢
  have HN:=zh hN
  have C0:=zh (Mo.add (Mo.start w) (r:=RE (.slice p N c) l) re_mn hS2)
  clear hS hS2 hbd hd hv hcv hN
  obtain⟨hks,hcl⟩:=zPW HCV.out
  have HCL:=zh hcl
  clear hcl
  obtain⟨EVX,hE0⟩:∃q,Co.eval 7 2 A B (.mk k o i nm at_ l)=q:=⟨_,rfl⟩
  rw [hE0]
  rw [Co.eval] at hE0
  unfold exprV vV
  simp only [Tr.E.kind,Tr.E.op,Tr.E.int,Tr.E.name,Tr.E.at_]
  obtain⟨sA,hsA⟩:∃q,A.isSome=q:=⟨_,rfl⟩
  obtain⟨nA,hnA⟩:∃q,A.getD 0=q:=⟨_,rfl⟩
  obtain⟨sB,hsB⟩:∃q,B.isSome=q:=⟨_,rfl⟩
  obtain⟨nB,hnB⟩:∃q,B.getD 0=q:=⟨_,rfl⟩
  rw [hsA,hnA,hsB,hnB]
  rcases hks with rfl|rfl|rfl|rfl|rfl|rfl
  ·obtain rfl:EVX=(some i,0,true):=by rw [←hE0];unfold Co.node;rw [if_pos rfl]
   clear hE0
   show Calls _ _ _ _ (fun r w'=>r= .returned (.tuple #[.agg #[.bool true,.int .i64 i],.int .i64 0,.bool true])∧Below w.heap.size w w')
   clear hsA hnA hsB hnB HN IH HD
   obtain⟨E,w1,HX1,HW1,hx1,C1⟩:=C0.out.boxE #[.int .i64 0,.int .i64 o,.int .i64 i,.string nm,.bool at_,.slice p N c] 37
   obtain⟨A,w2,HX2,HW2,hx2,C2⟩:=C1.out.boxE #[.bool sA,.int .i64 nA] 43
   have HY2:Hid (A=E+1):=zh (by rw [HX2.out,HW1.out,HX1.out];simp)
   obtain⟨B,w3,HX3,HW3,hx3,C3⟩:=C2.out.boxE #[.bool sB,.int .i64 nB] 43
   have HY3:Hid (B=A+1):=zh (by rw [HX3.out,HW2.out,HX2.out];simp)
   obtain⟨R,w4,HX4,HW4,hx4,C4⟩:=C3.out.boxE #[.bool false,.int .i64 0] 43
   have HY4:Hid (R=B+1):=zh (by rw [HX4.out,HW3.out,HX3.out];simp)
   go_enter Tryz.func22,Tryz.ntmps22
   go_upto_region 1 with fail
   rw [←HX1.out,←HW1.out,←HY2.out,←HW2.out,←HY3.out,←HW3.out,←HY4.out,←HW4.out]
   clear HX1 HW1 C0 HY2 HX2 HW2 C1 HY3 HX3 HW3 C2 HY4 HX4 HW4 C3
   have q0:=cells2 (C4.out.b 0 rfl)
   have q3:=cells6 (C4.out.b 3 rfl)
   obtain⟨w5,HW,C5⟩:=C4.out.set2 0 rfl (.bool true) (.int .i64 i)
   dsimp only [List.set] at C5
   go_wp2_with fail
   rw [←HW.out]
   clear HW C4 q0 q3
   exact Mz.retA2 C5.out 0 rfl Tryz.results22 rfl rfl rfl rfl ⟨_,Tryz.underlying43⟩ (by kernel_rfl) ⟨rfl,C5.out.gr.fresh⟩
  ·obtain rfl:EVX=(none,0,true):=by rw [←hE0];unfold Co.node;rw [if_neg (by decide),if_pos rfl]
   clear hE0
   show Calls _ _ _ _ (fun r w'=>r= .returned (.tuple #[.agg #[.bool false,.int .i64 0],.int .i64 0,.bool true])∧Below w.heap.size w w')
   clear hsA hnA hsB hnB HN IH HD
   obtain⟨E,w6,HX6,HW6,hx6,C6⟩:=C0.out.boxE #[.int .i64 1,.int .i64 o,.int .i64 i,.string nm,.bool at_,.slice p N c] 37
   obtain⟨A,w7,HX7,HW7,hx7,C7⟩:=C6.out.boxE #[.bool sA,.int .i64 nA] 43
   have HY7:Hid (A=E+1):=zh (by rw [HX7.out,HW6.out,HX6.out];simp)
   obtain⟨B,w8,HX8,HW8,hx8,C8⟩:=C7.out.boxE #[.bool sB,.int .i64 nB] 43
   have HY8:Hid (B=A+1):=zh (by rw [HX8.out,HW7.out,HX7.out];simp)
   obtain⟨R,w9,HX9,HW9,hx9,C9⟩:=C8.out.boxE #[.bool false,.int .i64 0] 43
   have HY9:Hid (R=B+1):=zh (by rw [HX9.out,HW8.out,HX8.out];simp)
   go_enter Tryz.func22,Tryz.ntmps22
   go_upto_region 1 with fail
   rw [←HX6.out,←HW6.out,←HY7.out,←HW7.out,←HY8.out,←HW8.out,←HY9.out,←HW9.out]
   clear HX6 HW6 C0 HY7 HX7 HW7 C6 HY8 HX8 HW8 C7 HY9 HX9 HW9 C8
   have q0:=cells2 (C9.out.b 0 rfl)
   have q3:=cells6 (C9.out.b 3 rfl)
   obtain⟨w10,HW,C10⟩:=C9.out.set2 0 rfl (.bool false) (.int .i64 0)
   dsimp only [List.set] at C10
   go_wp2_with fail
   rw [←HW.out]
   clear HW C9 q0 q3
   exact Mz.retA2 C10.out 0 rfl Tryz.results22 rfl rfl rfl rfl ⟨_,Tryz.underlying43⟩ (by kernel_rfl) ⟨rfl,C10.out.gr.fresh⟩
  ·by_cases ha:nm=⟨#[97]⟩
   ·subst ha
    obtain rfl:EVX=(A,0,true):=by rw [←hE0];unfold Co.node;rw [if_neg (by decide),if_neg (by decide),if_pos rfl,if_pos rfl]
    clear hE0
    dsimp only
    rw [hsA,hnA]
    clear hsA hnA hsB hnB HN IH HD
    obtain⟨E,w11,HX11,HW11,hx11,C11⟩:=C0.out.boxE #[.int .i64 3,.int .i64 o,.int .i64 i,.string ⟨#[97]⟩,.bool at_,.slice p N c] 37
    obtain⟨A,w12,HX12,HW12,hx12,C12⟩:=C11.out.boxE #[.bool sA,.int .i64 nA] 43
    have HY12:Hid (A=E+1):=zh (by rw [HX12.out,HW11.out,HX11.out];simp)
    obtain⟨B,w13,HX13,HW13,hx13,C13⟩:=C12.out.boxE #[.bool sB,.int .i64 nB] 43
    have HY13:Hid (B=A+1):=zh (by rw [HX13.out,HW12.out,HX12.out];simp)
    obtain⟨R,w14,HX14,HW14,hx14,C14⟩:=C13.out.boxE #[.bool false,.int .i64 0] 43
    have HY14:Hid (R=B+1):=zh (by rw [HX14.out,HW13.out,HX13.out];simp)
    go_enter Tryz.func22,Tryz.ntmps22
    go_upto_region 1 with fail
    rw [←HX11.out,←HW11.out,←HY12.out,←HW12.out,←HY13.out,←HW13.out,←HY14.out,←HW14.out]
    clear HX11 HW11 C0 HY12 HX12 HW12 C11 HY13 HX13 HW13 C12 HY14 HX14 HW14 C13
    have q0:=cells2 (C14.out.b 0 rfl)
    have q3:=cells6 (C14.out.b 3 rfl)
    have q2:=cells2 (C14.out.b 2 rfl)
    obtain⟨w15,HW,C15⟩:=C14.out.set2 0 rfl (.bool sA) (.int .i64 nA)
    dsimp only [List.set] at C15
    go_wp2_with fail
    rw [←HW.out]
    clear HW C14 q0 q3 q2
    exact Mz.retA2 C15.out 0 rfl Tryz.results22 rfl rfl rfl rfl ⟨_,Tryz.underlying43⟩ (by kernel_rfl) ⟨rfl,C15.out.gr.fresh⟩
   ·have h97:(nm.toList == [97])=false:=by rw [nm97];exact decide_eq_false ha
    have hp97:¬nm.toList= [97]:=beq_eq_false_iff_ne.1 h97
    obtain⟨B9,hB9⟩:∃q,(nm.toList == [98])=q:=⟨_,rfl⟩
    obtain rfl:EVX=(B,0,B9):=by rw [←hE0];unfold Co.node;rw [if_neg (by decide),if_neg (by decide),if_pos rfl,if_neg ha,←hB9,nm98]
    clear hE0
    dsimp only
    rw [hsB,hnB]
    clear hsA hnA hsB hnB HN IH HD ha
    obtain⟨E,w16,HX16,HW16,hx16,C16⟩:=C0.out.boxE #[.int .i64 3,.int .i64 o,.int .i64 i,.string nm,.bool at_,.slice p N c] 37
    obtain⟨A,w17,HX17,HW17,hx17,C17⟩:=C16.out.boxE #[.bool sA,.int .i64 nA] 43
    have HY17:Hid (A=E+1):=zh (by rw [HX17.out,HW16.out,HX16.out];simp)
    obtain⟨B,w18,HX18,HW18,hx18,C18⟩:=C17.out.boxE #[.bool sB,.int .i64 nB] 43
    have HY18:Hid (B=A+1):=zh (by rw [HX18.out,HW17.out,HX17.out];simp)
    obtain⟨R,w19,HX19,HW19,hx19,C19⟩:=C18.out.boxE #[.bool false,.int .i64 0] 43
    have HY19:Hid (R=B+1):=zh (by rw [HX19.out,HW18.out,HX18.out];simp)
    go_enter Tryz.func22,Tryz.ntmps22
    go_upto_region 1 with fail
    rw [←HX16.out,←HW16.out,←HY17.out,←HW17.out,←HY18.out,←HW18.out,←HY19.out,←HW19.out]
    clear HX16 HW16 C0 HY17 HX17 HW17 C16 HY18 HX18 HW18 C17 HY19 HX19 HW19 C18
    have q3:=cells6 (C19.out.b 3 rfl)
    go_upto_region 9 with fail
    clear q3
    obtain⟨w20,HW,C20⟩:=C19.out.drewE
    refine wp_region_held_drew (S:=fun W=>W.cell? ⟨B,0,none⟩=some (.bool sB)∧W.cell? ⟨B,1,none⟩=some (.int .i64 nB)∧W.cell? ⟨E,3,none⟩=some (.string nm)) (by kernel_rfl) (by rw [←HW.out];exact⟨zB (C20.out.b 1 rfl) (j:=0) rfl,zB (C20.out.b 1 rfl) (j:=1) rfl,zB (C20.out.b 3 rfl) (j:=3) rfl⟩) (fun hHeld=>?_)
    rw [←HW.out] at hHeld ⊢
    clear HW C19
    refine rU 0 (some 32) ?_
    refine rU 1 (some 33) ?_
    refine rU 2 (some 34) ?_
    refine rU 3 (some 35) ?_
    clear hHeld
    have q0:=cells2 (C20.out.b 0 rfl)
    obtain⟨w21,HW,C21⟩:=C20.out.set2 0 rfl (.bool sB) (.int .i64 nB)
    dsimp only [List.set] at C21
    refine rR1 4 none (fun K hK=>?_)
    go_simp
    rw [←HW.out]
    clear HW C20 q0
    refine hK.out _ _ ?_ (fun hHeld=>?_)
    ·exact⟨zB (C21.out.b 1 rfl) (j:=0) rfl,zB (C21.out.b 1 rfl) (j:=1) rfl,zB (C21.out.b 3 rfl) (j:=3) rfl⟩
    clear hK K
    try simp only [Act.put,q0,q1,q2]
    refine rU 5 (some 7) ?_
    refine rU 6 (some 8) ?_
    refine wpAnyH_done (by kernel_rfl) ?_ _
    clear hHeld
    go_wp2_with fail
    exact Mz.retA2 C21.out 0 rfl Tryz.results22 rfl rfl rfl (by first|rfl|rw [hB9]) ⟨_,Tryz.underlying43⟩ (by kernel_rfl) ⟨rfl,C21.out.gr.fresh⟩
  ·obtain⟨x,rfl,hvx⟩:=zMD HV.out (by omega)
   obtain rfl:1=N:=HN.out
   have HVx:=zh hvx
   have HCx:=zh (zIS (HCL.out (by omega)))
   have hdx:=HD.out 0 x rfl
   have HDx:=zh hdx
   rw [Co.evals,Co.evals] at hE0
   obtain⟨Vx,hVx⟩:∃q,Co.eval 7 2 A B x=q:=⟨_,rfl⟩
   obtain⟨vx,fx,kx⟩:=Vx
   have HEVx:=zh hVx
   obtain⟨sx,hsx⟩:∃q,vx.isSome=q:=⟨_,rfl⟩
   obtain⟨nx,hnx⟩:∃q,vx.getD 0=q:=⟨_,rfl⟩
   have HSx:=zh hsx
   have HNNx:=zh hnx
   rw [hVx] at hE0
   obtain rfl:kx=true:=by have h9:=(Co.zBV (et:=7) (er:=2) (a:=A) (b:=B) x HVx.out HCx.out).1;rw [hVx] at h9;exact h9
   clear hVx hsx hnx
   have HSA:=zh hsA
   have HNA:=zh hnA
   have HSB:=zh hsB
   have HNB:=zh hnB
   clear hsA hnA hsB hnB
   clear HD HN hvx hdx
   obtain⟨bbx,oox,px,ccx,hpx,hlx,hbdx,C22⟩:=Mz.elemM C0.out 0 rfl (j:=0) (x:=x) rfl
   clear C0
   obtain⟨Nx,hNx⟩:∃q,x.args.length=q:=⟨_,rfl⟩
   rw [hNx] at C22
   simp only [Nat.zero_mul,Nat.add_zero] at C22
   have HBDx:=zh hbdx
   clear hNx hbdx
   subst hpx
   obtain⟨E,w23,HX23,HW23,hx23,C23⟩:=C22.out.boxE #[.int .i64 8,.int .i64 o,.int .i64 i,.string nm,.bool at_,.slice (some ⟨bbx,oox,none⟩) 1 c] 37
   obtain⟨A,w24,HX24,HW24,hx24,C24⟩:=C23.out.boxE #[.bool sA,.int .i64 nA] 43
   have HY24:Hid (A=E+1):=zh (by rw [HX24.out,HW23.out,HX23.out];simp)
   obtain⟨B,w25,HX25,HW25,hx25,C25⟩:=C24.out.boxE #[.bool sB,.int .i64 nB] 43
   have HY25:Hid (B=A+1):=zh (by rw [HX25.out,HW24.out,HX24.out];simp)
   obtain⟨R,w26,HX26,HW26,hx26,C26⟩:=C25.out.boxE #[.bool false,.int .i64 0] 43
   have HY26:Hid (R=B+1):=zh (by rw [HX26.out,HW25.out,HX25.out];simp)
   go_enter Tryz.func22,Tryz.ntmps22
   go_upto_region 1 with fail
   rw [←HX23.out,←HW23.out,←HY24.out,←HW24.out,←HY25.out,←HW25.out,←HY26.out,←HW26.out]
   clear HX23 HW23 C22 HY24 HX24 HW24 C23 HY25 HX25 HW25 C24 HY26 HX26 HW26 C25
   have q3:=cells6 (C26.out.b 3 rfl)
   go_upto_region 12 with fail
   clear q3
   go_cut [9,10,11] (fun s9 s10 s11 wx=>∃X:Nat,s9= .pointer (some ⟨X,0,none⟩)∧s10= .int .i64 fx∧s11= .bool true∧Hid (Mz 0 0 w [] (fun _=>True) [] [(X,#[.bool sx,.int .i64 nx],43),(R,#[.bool false,.int .i64 0],43),(B,#[.bool sB,.int .i64 nB],43),(A,#[.bool sA,.int .i64 nA],43),(E,#[.int .i64 8,.int .i64 o,.int .i64 i,.string nm,.bool at_,.slice (some ⟨bbx,oox,none⟩) 1 c],37)] [CE bbx (oox) x (.slice px Nx ccx),RE (.slice px Nx ccx) x.args,RE (.slice (some ⟨bbx,oox,none⟩) 1 c) [x]] wx))
   case first=>
    obtain⟨w27,HW,C27⟩:=C26.out.drewE
    refine wp_region_held_drew (S:=fun W=>W.cell? ⟨E,5,none⟩=some (.slice (some ⟨bbx,oox,none⟩) 1 c)∧(W.cell? ⟨bbx,oox,none⟩=some (.int .i64 x.kind)∧W.cell? ⟨bbx,oox+1,none⟩=some (.int .i64 x.op)∧W.cell? ⟨bbx,oox+2,none⟩=some (.int .i64 x.int)∧W.cell? ⟨bbx,oox+3,none⟩=some (.string x.name)∧W.cell? ⟨bbx,oox+4,none⟩=some (.bool x.at_)∧W.cell? ⟨bbx,oox+5,none⟩=some (.slice px Nx ccx))∧W.cell? ⟨A,0,none⟩=some (.bool sA)∧W.cell? ⟨A,1,none⟩=some (.int .i64 nA)∧W.cell? ⟨B,0,none⟩=some (.bool sB)∧W.cell? ⟨B,1,none⟩=some (.int .i64 nB)) (by kernel_rfl) (by rw [←HW.out];exact⟨zB (C27.out.b 3 rfl) (j:=5) rfl,C27.out.rd 0 rfl,zB (C27.out.b 2 rfl) (j:=0) rfl,zB (C27.out.b 2 rfl) (j:=1) rfl,zB (C27.out.b 1 rfl) (j:=0) rfl,zB (C27.out.b 1 rfl) (j:=1) rfl⟩) (fun hHeld=>?_)
    rw [←HW.out] at hHeld ⊢
    clear HW C26
    refine rU 0 (some 40) ?_
    refine rU 1 (some 41) ?_
    refine rU 2 (some 42) ?_
    refine rU 3 (some 43) ?_
    refine rU 4 (some 44) ?_
    refine rU 5 (some 45) ?_
    clear hHeld
    refine rR2 6 (some 46) 11 (some 9) (fun K hK=>?_) (fun K hK=>?_)
    ·go_simp
     have hk:=IH.out x (.slice px Nx ccx) w27 HDx.out HVx.out HCx.out HBDx.out (C27.out.rd 1 rfl)
     unfold exprV vV at hk
     rw [HSA.out,HNA.out,HSB.out,HNB.out,HEVx.out] at hk
     dsimp only at hk
     rw [HSx.out,HNNx.out] at hk
     refine hk.mono ?_
     clear hk
     rintro e w28 ⟨rfl,hb9⟩
     have C28:=zh (C27.out.below hb9)
     clear hb9 C27
     go_wp2_with fail
     refine hK.out _ _ ?_ (fun hHeld=>?_)
     ·exact sv_of C28.out 3 2 1 0 rfl rfl rfl rfl
     clear hK K
     try simp only [Act.put,q0,q1,q2]
     refine rU 7 (some 39) ?_
     refine rU 8 (some 47) ?_
     refine rU 9 (some 48) ?_
     refine rU 10 (some 49) ?_
     clear hHeld
     refine rR1 11 (some 9) (fun K hK=>?_)
     obtain⟨X,w29,HX,HW,hx29,C29⟩:=C28.out.boxE #[.bool false,.int .i64 0] 43
     go_simp
     rw [←HX.out,←HW.out]
     clear HX HW C28
     refine hK.out _ _ ?_ (fun hHeld=>?_)
     ·exact sv_of C29.out 4 3 2 0 rfl rfl rfl rfl
     clear hK K
     try simp only [Act.put,q0,q1,q2]
     clear hHeld
     have q0:=cells2 (C29.out.b 0 rfl)
     obtain⟨w30,HW,C30⟩:=C29.out.set2 0 rfl (.bool sx) (.int .i64 nx)
     dsimp only [List.set] at C30
     refine rR1 12 none (fun K hK=>?_)
     go_simp
     rw [←HW.out]
     clear HW C29 q0
     refine hK.out _ _ ?_ (fun hHeld=>?_)
     ·exact sv_of C30.out 4 3 2 0 rfl rfl rfl rfl
     clear hK K
     try simp only [Act.put,q0,q1,q2]
     refine rU 13 (some 10) ?_
     refine rU 14 (some 11) ?_
     refine wpAnyH_done (by kernel_rfl) ?_ _
     clear hHeld
     go_wp2_with fail
     go_meet
     exact⟨X,rfl,rfl,rfl,C30⟩
    ·obtain⟨X,w31,HX,HW,hx31,C31⟩:=C27.out.boxE #[.bool false,.int .i64 0] 43
     go_simp
     rw [←HX.out,←HW.out]
     clear HX HW C27
     refine hK.out _ _ ?_ (fun hHeld=>?_)
     ·exact sv_of C31.out 4 3 2 0 rfl rfl rfl rfl
     clear hK K
     try simp only [Act.put,q0,q1,q2]
     clear hHeld
     refine rR1 6 (some 46) (fun K hK=>?_)
     go_simp
     have hk:=IH.out x (.slice px Nx ccx) w31 HDx.out HVx.out HCx.out HBDx.out (C31.out.rd 1 rfl)
     unfold exprV vV at hk
     rw [HSA.out,HNA.out,HSB.out,HNB.out,HEVx.out] at hk
     dsimp only at hk
     rw [HSx.out,HNNx.out] at hk
     refine hk.mono ?_
     clear hk
     rintro e w32 ⟨rfl,hb9⟩
     have C32:=zh (C31.out.below hb9)
     clear hb9 C31
     go_wp2_with fail
     refine hK.out _ _ ?_ (fun hHeld=>?_)
     ·exact sv_of C32.out 4 3 2 0 rfl rfl rfl rfl
     clear hK K
     try simp only [Act.put,q0,q1,q2]
     refine rU 7 (some 39) ?_
     refine rU 8 (some 47) ?_
     refine rU 9 (some 48) ?_
     refine rU 10 (some 49) ?_
     clear hHeld
     have q0:=cells2 (C32.out.b 0 rfl)
     obtain⟨w33,HW,C33⟩:=C32.out.set2 0 rfl (.bool sx) (.int .i64 nx)
     dsimp only [List.set] at C33
     refine rR1 12 none (fun K hK=>?_)
     go_simp
     rw [←HW.out]
     clear HW C32 q0
     refine hK.out _ _ ?_ (fun hHeld=>?_)
     ·exact sv_of C33.out 4 3 2 0 rfl rfl rfl rfl
     clear hK K
     try simp only [Act.put,q0,q1,q2]
     refine rU 13 (some 10) ?_
     refine rU 14 (some 11) ?_
     refine wpAnyH_done (by kernel_rfl) ?_ _
     clear hHeld
     go_wp2_with fail
     go_meet
     exact⟨X,rfl,rfl,rfl,C33⟩
   case rest=>
   clear C26
   obtain⟨X,rfl,rfl,rfl,C34⟩:=hcut
   obtain⟨w34,hw34⟩:∃q,q=wc:=⟨_,rfl⟩
   rw [←hw34] at C34 ⊢
   clear hw34
   by_cases h0:fx=0
   ·subst h0
    obtain rfl:EVX=((neg0 vx).1,(neg0 vx).2,true):=by rw [←hE0];unfold Co.node Co.neg1 neg0;cases vx<;>simp
    clear hE0
    have KN:Hid (∀W,Calls Tryz.prog 49 #[.agg #[.bool sx,.int .i64 nx]] W fun e w'=>e= .returned (.tuple #[.agg #[.bool (neg0 vx).1.isSome,.int .i64 ((neg0 vx).1.getD 0)],.int .i64 (neg0 vx).2])∧Below W.heap.size W w'):=zh (fun W=>by have h:=zGG vx W;unfold vV at h;rw [HSx.out,HNNx.out] at h;exact h)
    obtain⟨sz,hsz⟩:∃q,(neg0 vx).1.isSome=q:=⟨_,rfl⟩
    obtain⟨nz,hnz⟩:∃q,(neg0 vx).1.getD 0=q:=⟨_,rfl⟩
    obtain⟨fz,hfz⟩:∃q,(neg0 vx).2=q:=⟨_,rfl⟩
    rw [hsz,hnz,hfz] at KN
    have HZ:=zh hsz
    have HZ2:=zh hnz
    have HZ3:=zh hfz
    clear hsz hnz hfz
    have q4:=cells6 (C34.out.b 4 rfl)
    have q0:=cells2 (C34.out.b 0 rfl)
    go_wp2_with fail
    clear q4 q0
    refine(KN.out _).mono ?_
    rintro e w37 ⟨rfl,hb⟩
    have C38:=zh (C34.out.below hb)
    clear C34
    clear hb
    have q0:=cells2 (C38.out.b 0 rfl)
    obtain⟨w39,HW,C39⟩:=C38.out.set2 0 rfl (.bool sz) (.int .i64 nz)
    dsimp only [List.set] at C39
    go_upto_region 18 with fail
    rw [←HW.out]
    clear HW C38 q0
    have q1:=cells2 (C39.out.b 1 rfl)
    have q0:=cells2 (C39.out.b 0 rfl)
    obtain⟨w40,HW,C40⟩:=C39.out.set2 1 rfl (.bool sz) (.int .i64 nz)
    dsimp only [List.set] at C40
    go_wp2_with fail
    rw [←HW.out]
    clear HW C39 q1 q0
    exact Mz.retA2 C40.out 1 rfl Tryz.results22 rfl rfl rfl rfl ⟨_,Tryz.underlying43⟩ (by kernel_rfl) ⟨by rw [←HZ.out,←HZ2.out,←HZ3.out];rfl,C40.out.gr.fresh⟩
   ·have hb0:((fx:Int) == 0)=false:=beq_eq_false_iff_ne.2 (by omega)
    obtain rfl:EVX=(none,fx,true):=by rw [←hE0];unfold Co.node Co.neg1;simp [h0]
    clear hE0
    have q1:=cells2 (C34.out.b 1 rfl)
    have q4:=cells6 (C34.out.b 4 rfl)
    have q0:=cells2 (C34.out.b 0 rfl)
    obtain⟨w35,HW,C35⟩:=C34.out.set2 1 rfl (.bool false) (.int .i64 0)
    dsimp only [List.set] at C35
    go_wp2_with fail
    rw [←HW.out]
    clear HW C34 q1 q4 q0
    exact Mz.retA2 C35.out 1 rfl Tryz.results22 rfl rfl rfl rfl ⟨_,Tryz.underlying43⟩ (by kernel_rfl) ⟨rfl,C35.out.gr.fresh⟩
  ·obtain⟨x,rfl,hvx⟩:=zMD HV.out (by omega)
   obtain rfl:1=N:=HN.out
   have HVx:=zh hvx
   have HCx:=zh (zIS (HCL.out (by omega)))
   have hdx:=HD.out 0 x rfl
   have HDx:=zh hdx
   rw [Co.evals,Co.evals] at hE0
   obtain⟨Vx,hVx⟩:∃q,Co.eval 7 2 A B x=q:=⟨_,rfl⟩
   obtain⟨vx,fx,kx⟩:=Vx
   have HEVx:=zh hVx
   obtain⟨sx,hsx⟩:∃q,vx.isSome=q:=⟨_,rfl⟩
   obtain⟨nx,hnx⟩:∃q,vx.getD 0=q:=⟨_,rfl⟩
   have HSx:=zh hsx
   have HNNx:=zh hnx
   rw [hVx] at hE0
   obtain rfl:kx=true:=by have h9:=(Co.zBV (et:=7) (er:=2) (a:=A) (b:=B) x HVx.out HCx.out).1;rw [hVx] at h9;exact h9
   clear hVx hsx hnx
   have HSA:=zh hsA
   have HNA:=zh hnA
   have HSB:=zh hsB
   have HNB:=zh hnB
   clear hsA hnA hsB hnB
   clear HD HN hvx hdx
   obtain⟨bbx,oox,px,ccx,hpx,hlx,hbdx,C41⟩:=Mz.elemM C0.out 0 rfl (j:=0) (x:=x) rfl
   clear C0
   obtain⟨Nx,hNx⟩:∃q,x.args.length=q:=⟨_,rfl⟩
   rw [hNx] at C41
   simp only [Nat.zero_mul,Nat.add_zero] at C41
   have HBDx:=zh hbdx
   clear hNx hbdx
   subst hpx
   obtain⟨E,w42,HX42,HW42,hx42,C42⟩:=C41.out.boxE #[.int .i64 9,.int .i64 o,.int .i64 i,.string nm,.bool at_,.slice (some ⟨bbx,oox,none⟩) 1 c] 37
   obtain⟨A,w43,HX43,HW43,hx43,C43⟩:=C42.out.boxE #[.bool sA,.int .i64 nA] 43
   have HY43:Hid (A=E+1):=zh (by rw [HX43.out,HW42.out,HX42.out];simp)
   obtain⟨B,w44,HX44,HW44,hx44,C44⟩:=C43.out.boxE #[.bool sB,.int .i64 nB] 43
   have HY44:Hid (B=A+1):=zh (by rw [HX44.out,HW43.out,HX43.out];simp)
   obtain⟨R,w45,HX45,HW45,hx45,C45⟩:=C44.out.boxE #[.bool false,.int .i64 0] 43
   have HY45:Hid (R=B+1):=zh (by rw [HX45.out,HW44.out,HX44.out];simp)
   go_enter Tryz.func22,Tryz.ntmps22
   go_upto_region 1 with fail
   rw [←HX42.out,←HW42.out,←HY43.out,←HW43.out,←HY44.out,←HW44.out,←HY45.out,←HW45.out]
   clear HX42 HW42 C41 HY43 HX43 HW43 C42 HY44 HX44 HW44 C43 HY45 HX45 HW45 C44
   have q3:=cells6 (C45.out.b 3 rfl)
   go_upto_region 12 with fail
   clear q3
   go_cut [9,10,11] (fun s9 s10 s11 wx=>∃X:Nat,s9= .pointer (some ⟨X,0,none⟩)∧s10= .int .i64 fx∧s11= .bool true∧Hid (Mz 0 0 w [] (fun _=>True) [] [(X,#[.bool sx,.int .i64 nx],43),(R,#[.bool false,.int .i64 0],43),(B,#[.bool sB,.int .i64 nB],43),(A,#[.bool sA,.int .i64 nA],43),(E,#[.int .i64 9,.int .i64 o,.int .i64 i,.string nm,.bool at_,.slice (some ⟨bbx,oox,none⟩) 1 c],37)] [CE bbx (oox) x (.slice px Nx ccx),RE (.slice px Nx ccx) x.args,RE (.slice (some ⟨bbx,oox,none⟩) 1 c) [x]] wx))
   case first=>
    obtain⟨w46,HW,C46⟩:=C45.out.drewE
    refine wp_region_held_drew (S:=fun W=>W.cell? ⟨E,5,none⟩=some (.slice (some ⟨bbx,oox,none⟩) 1 c)∧(W.cell? ⟨bbx,oox,none⟩=some (.int .i64 x.kind)∧W.cell? ⟨bbx,oox+1,none⟩=some (.int .i64 x.op)∧W.cell? ⟨bbx,oox+2,none⟩=some (.int .i64 x.int)∧W.cell? ⟨bbx,oox+3,none⟩=some (.string x.name)∧W.cell? ⟨bbx,oox+4,none⟩=some (.bool x.at_)∧W.cell? ⟨bbx,oox+5,none⟩=some (.slice px Nx ccx))∧W.cell? ⟨A,0,none⟩=some (.bool sA)∧W.cell? ⟨A,1,none⟩=some (.int .i64 nA)∧W.cell? ⟨B,0,none⟩=some (.bool sB)∧W.cell? ⟨B,1,none⟩=some (.int .i64 nB)) (by kernel_rfl) (by rw [←HW.out];exact⟨zB (C46.out.b 3 rfl) (j:=5) rfl,C46.out.rd 0 rfl,zB (C46.out.b 2 rfl) (j:=0) rfl,zB (C46.out.b 2 rfl) (j:=1) rfl,zB (C46.out.b 1 rfl) (j:=0) rfl,zB (C46.out.b 1 rfl) (j:=1) rfl⟩) (fun hHeld=>?_)
    rw [←HW.out] at hHeld ⊢
    clear HW C45
    refine rU 0 (some 40) ?_
    refine rU 1 (some 41) ?_
    refine rU 2 (some 42) ?_
    refine rU 3 (some 43) ?_
    refine rU 4 (some 44) ?_
    refine rU 5 (some 45) ?_
    clear hHeld
    refine rR2 6 (some 46) 11 (some 9) (fun K hK=>?_) (fun K hK=>?_)
    ·go_simp
     have hk:=IH.out x (.slice px Nx ccx) w46 HDx.out HVx.out HCx.out HBDx.out (C46.out.rd 1 rfl)
     unfold exprV vV at hk
     rw [HSA.out,HNA.out,HSB.out,HNB.out,HEVx.out] at hk
     dsimp only at hk
     rw [HSx.out,HNNx.out] at hk
     refine hk.mono ?_
     clear hk
     rintro e w47 ⟨rfl,hb9⟩
     have C47:=zh (C46.out.below hb9)
     clear hb9 C46
     go_wp2_with fail
     refine hK.out _ _ ?_ (fun hHeld=>?_)
     ·exact sv_of C47.out 3 2 1 0 rfl rfl rfl rfl
     clear hK K
     try simp only [Act.put,q0,q1,q2]
     refine rU 7 (some 39) ?_
     refine rU 8 (some 47) ?_
     refine rU 9 (some 48) ?_
     refine rU 10 (some 49) ?_
     clear hHeld
     refine rR1 11 (some 9) (fun K hK=>?_)
     obtain⟨X,w48,HX,HW,hx48,C48⟩:=C47.out.boxE #[.bool false,.int .i64 0] 43
     go_simp
     rw [←HX.out,←HW.out]
     clear HX HW C47
     refine hK.out _ _ ?_ (fun hHeld=>?_)
     ·exact sv_of C48.out 4 3 2 0 rfl rfl rfl rfl
     clear hK K
     try simp only [Act.put,q0,q1,q2]
     clear hHeld
     have q0:=cells2 (C48.out.b 0 rfl)
     obtain⟨w49,HW,C49⟩:=C48.out.set2 0 rfl (.bool sx) (.int .i64 nx)
     dsimp only [List.set] at C49
     refine rR1 12 none (fun K hK=>?_)
     go_simp
     rw [←HW.out]
     clear HW C48 q0
     refine hK.out _ _ ?_ (fun hHeld=>?_)
     ·exact sv_of C49.out 4 3 2 0 rfl rfl rfl rfl
     clear hK K
     try simp only [Act.put,q0,q1,q2]
     refine rU 13 (some 10) ?_
     refine rU 14 (some 11) ?_
     refine wpAnyH_done (by kernel_rfl) ?_ _
     clear hHeld
     go_wp2_with fail
     go_meet
     exact⟨X,rfl,rfl,rfl,C49⟩
    ·obtain⟨X,w50,HX,HW,hx50,C50⟩:=C46.out.boxE #[.bool false,.int .i64 0] 43
     go_simp
     rw [←HX.out,←HW.out]
     clear HX HW C46
     refine hK.out _ _ ?_ (fun hHeld=>?_)
     ·exact sv_of C50.out 4 3 2 0 rfl rfl rfl rfl
     clear hK K
     try simp only [Act.put,q0,q1,q2]
     clear hHeld
     refine rR1 6 (some 46) (fun K hK=>?_)
     go_simp
     have hk:=IH.out x (.slice px Nx ccx) w50 HDx.out HVx.out HCx.out HBDx.out (C50.out.rd 1 rfl)
     unfold exprV vV at hk
     rw [HSA.out,HNA.out,HSB.out,HNB.out,HEVx.out] at hk
     dsimp only at hk
     rw [HSx.out,HNNx.out] at hk
     refine hk.mono ?_
     clear hk
     rintro e w51 ⟨rfl,hb9⟩
     have C51:=zh (C50.out.below hb9)
     clear hb9 C50
     go_wp2_with fail
     refine hK.out _ _ ?_ (fun hHeld=>?_)
     ·exact sv_of C51.out 4 3 2 0 rfl rfl rfl rfl
     clear hK K
     try simp only [Act.put,q0,q1,q2]
     refine rU 7 (some 39) ?_
     refine rU 8 (some 47) ?_
     refine rU 9 (some 48) ?_
     refine rU 10 (some 49) ?_
     clear hHeld
     have q0:=cells2 (C51.out.b 0 rfl)
     obtain⟨w52,HW,C52⟩:=C51.out.set2 0 rfl (.bool sx) (.int .i64 nx)
     dsimp only [List.set] at C52
     refine rR1 12 none (fun K hK=>?_)
     go_simp
     rw [←HW.out]
     clear HW C51 q0
     refine hK.out _ _ ?_ (fun hHeld=>?_)
     ·exact sv_of C52.out 4 3 2 0 rfl rfl rfl rfl
     clear hK K
     try simp only [Act.put,q0,q1,q2]
     refine rU 13 (some 10) ?_
     refine rU 14 (some 11) ?_
     refine wpAnyH_done (by kernel_rfl) ?_ _
     clear hHeld
     go_wp2_with fail
     go_meet
     exact⟨X,rfl,rfl,rfl,C52⟩
   case rest=>
   clear C45
   obtain⟨X,rfl,rfl,rfl,C53⟩:=hcut
   obtain⟨w53,hw53⟩:∃q,q=wc:=⟨_,rfl⟩
   rw [←hw53] at C53 ⊢
   clear hw53
   by_cases h0:fx=0
   ·subst h0
    obtain rfl:EVX=(some (Co.bit (!Co.truth vx)),0,true):=by rw [←hE0];unfold Co.node Co.not1;simp
    clear hE0
    have KTx:Hid (∀W,Calls Tryz.prog 48 #[.agg #[.bool sx,.int .i64 nx]] W fun e w'=>e= .returned (.bool (Co.truth vx))∧Below W.heap.size W w'):=zh (fun W=>by have h:=zBM vx W;unfold vV at h;rw [HSx.out,HNNx.out] at h;exact h)
    have KB:Hid (∀W,Calls Tryz.prog 47 #[.bool (!Co.truth vx)] W fun e w'=>e= .returned (.agg #[.bool true,.int .i64 (Co.bit (!Co.truth vx))])∧Below W.heap.size W w'):=zh (fun W=>zAG _ W)
    have q0:=cells2 (C53.out.b 0 rfl)
    have q4:=cells6 (C53.out.b 4 rfl)
    go_wp2_with fail
    clear q0 q4
    refine(KTx.out _).mono ?_
    rintro e w56 ⟨rfl,hb⟩
    have C57:=zh (C53.out.below hb)
    clear C53
    clear hb
    go_wp2_with fail
    refine(KB.out _).mono ?_
    rintro e w58 ⟨rfl,hb⟩
    have C59:=zh (C57.out.below hb)
    clear C57
    clear hb
    obtain⟨Z,hZ⟩:∃q,Co.bit (!Co.truth vx)=q:=⟨_,rfl⟩
    have HZ:=zh hZ
    rw [hZ]
    clear hZ KB
    have q1:=cells2 (C59.out.b 1 rfl)
    obtain⟨w60,HW,C60⟩:=C59.out.set2 1 rfl (.bool true) (.int .i64 Z)
    dsimp only [List.set] at C60
    go_wp2_with fail
    rw [←HW.out]
    clear HW C59 q1
    exact Mz.retA2 C60.out 1 rfl Tryz.results22 rfl rfl rfl rfl ⟨_,Tryz.underlying43⟩ (by kernel_rfl) ⟨by rw [←HZ.out];rfl,C60.out.gr.fresh⟩
   ·have hb0:((fx:Int) == 0)=false:=beq_eq_false_iff_ne.2 (by omega)
    obtain rfl:EVX=(none,fx,true):=by rw [←hE0];unfold Co.node Co.not1;simp [h0]
    clear hE0
    have q1:=cells2 (C53.out.b 1 rfl)
    have q4:=cells6 (C53.out.b 4 rfl)
    have q0:=cells2 (C53.out.b 0 rfl)
    obtain⟨w54,HW,C54⟩:=C53.out.set2 1 rfl (.bool false) (.int .i64 0)
    dsimp only [List.set] at C54
    go_wp2_with fail
    rw [←HW.out]
    clear HW C53 q1 q4 q0
    exact Mz.retA2 C54.out 1 rfl Tryz.results22 rfl rfl rfl rfl ⟨_,Tryz.underlying43⟩ (by kernel_rfl) ⟨rfl,C54.out.gr.fresh⟩
  ·obtain⟨x,y,rfl,hvx,hvy,ho0,ho1⟩:=zRE HV.out
   obtain rfl:2=N:=HN.out
   have HVx:=zh hvx
   have HVy:=zh hvy
   have HCx:=zh (zM0 (HCL.out (by omega))).1
   have HCy:=zh (zM0 (HCL.out (by omega))).2
   have HDx:=zh (HD.out 0 x rfl)
   have HDy:=zh (HD.out 1 y rfl)
   rw [Co.evals,Co.evals,Co.evals] at hE0
   obtain⟨Vx,hVx⟩:∃q,Co.eval 7 2 A B x=q:=⟨_,rfl⟩
   obtain⟨vx,fx,kx⟩:=Vx
   have HEVx:=zh hVx
   obtain⟨sx,hsx⟩:∃q,vx.isSome=q:=⟨_,rfl⟩
   obtain⟨nx,hnx⟩:∃q,vx.getD 0=q:=⟨_,rfl⟩
   have HSx:=zh hsx
   have HNNx:=zh hnx
   rw [hVx] at hE0
   obtain rfl:kx=true:=by have h9:=(Co.zBV (et:=7) (er:=2) (a:=A) (b:=B) x HVx.out HCx.out).1;rw [hVx] at h9;exact h9
   clear hVx hsx hnx
   obtain⟨Vy,hVy⟩:∃q,Co.eval 7 2 A B y=q:=⟨_,rfl⟩
   obtain⟨vy,fy,ky⟩:=Vy
   have HEVy:=zh hVy
   obtain⟨sy,hsy⟩:∃q,vy.isSome=q:=⟨_,rfl⟩
   obtain⟨ny,hny⟩:∃q,vy.getD 0=q:=⟨_,rfl⟩
   have HSy:=zh hsy
   have HNNy:=zh hny
   rw [hVy] at hE0
   obtain rfl:ky=true:=by have h9:=(Co.zBV (et:=7) (er:=2) (a:=A) (b:=B) y HVy.out HCy.out).1;rw [hVy] at h9;exact h9
   clear hVy hsy hny
   rw [HCy.out] at hE0
   have hE1:Co.bin2 7 2 o (vx,fx,true) true (vy,fy,true)=EVX:=by rw [←hE0];rfl
   have HSA:=zh hsA
   have HNA:=zh hnA
   have HSB:=zh hsB
   have HNB:=zh hnB
   clear hsA hnA hsB hnB
   clear HD HN hvx hvy hE0
   have hE0:=hE1
   clear hE1
   unfold Co.bin2 at hE0
   dsimp only at hE0
   have HE0:=zh hE0
   have HO0:=zh ho0
   have HO1:=zh ho1
   clear hE0 ho0 ho1
   obtain⟨bbx,oox,px,ccx,hpx,hlx,hbdx,C61⟩:=Mz.elemM C0.out 0 rfl (j:=0) (x:=x) rfl
   clear C0
   obtain⟨Nx,hNx⟩:∃q,x.args.length=q:=⟨_,rfl⟩
   rw [hNx] at C61
   simp only [Nat.zero_mul,Nat.add_zero] at C61
   have HBDx:=zh hbdx
   clear hNx hbdx
   subst hpx
   obtain⟨bby,ooy,py,ccy,hpy,hly,hbdy,C62⟩:=Mz.elemM C61.out 2 rfl (j:=1) (x:=y) rfl
   clear C61
   obtain⟨Ny,hNy⟩:∃q,y.args.length=q:=⟨_,rfl⟩
   rw [hNy] at C62
   simp only [Nat.one_mul] at C62
   have HBDy:=zh hbdy
   clear hNy hbdy
   injection hpy with hpy
   injection hpy with e1 e2
   subst e1
   subst e2
   obtain⟨E,w63,HX63,HW63,hx63,C63⟩:=C62.out.boxE #[.int .i64 10,.int .i64 o,.int .i64 i,.string nm,.bool at_,.slice (some ⟨bbx,oox,none⟩) 2 c] 37
   obtain⟨A,w64,HX64,HW64,hx64,C64⟩:=C63.out.boxE #[.bool sA,.int .i64 nA] 43
   have HY64:Hid (A=E+1):=zh (by rw [HX64.out,HW63.out,HX63.out];simp)
   obtain⟨B,w65,HX65,HW65,hx65,C65⟩:=C64.out.boxE #[.bool sB,.int .i64 nB] 43
   have HY65:Hid (B=A+1):=zh (by rw [HX65.out,HW64.out,HX64.out];simp)
   obtain⟨R,w66,HX66,HW66,hx66,C66⟩:=C65.out.boxE #[.bool false,.int .i64 0] 43
   have HY66:Hid (R=B+1):=zh (by rw [HX66.out,HW65.out,HX65.out];simp)
   go_enter Tryz.func22,Tryz.ntmps22
   go_upto_region 1 with fail
   rw [←HX63.out,←HW63.out,←HY64.out,←HW64.out,←HY65.out,←HW65.out,←HY66.out,←HW66.out]
   clear HX63 HW63 C62 HY64 HX64 HW64 C63 HY65 HX65 HW65 C64 HY66 HX66 HW66 C65
   have q3:=cells6 (C66.out.b 3 rfl)
   go_upto_region 20 with fail
   clear q3
   go_cut [12,13,14] (fun s12 s13 s14 wx=>∃X:Nat,s12= .pointer (some ⟨X,0,none⟩)∧s13= .int .i64 fx∧s14= .bool true∧Hid (Mz 0 0 w [] (fun _=>True) [] [(X,#[.bool sx,.int .i64 nx],43),(R,#[.bool false,.int .i64 0],43),(B,#[.bool sB,.int .i64 nB],43),(A,#[.bool sA,.int .i64 nA],43),(E,#[.int .i64 10,.int .i64 o,.int .i64 i,.string nm,.bool at_,.slice (some ⟨bbx,oox,none⟩) 2 c],37)] [CE bbx (oox+6) y (.slice py Ny ccy),RE (.slice py Ny ccy) y.args,CE bbx (oox) x (.slice px Nx ccx),RE (.slice px Nx ccx) x.args,RE (.slice (some ⟨bbx,oox,none⟩) 2 c) [x,y]] wx))
   case first=>
    obtain⟨w67,HW,C67⟩:=C66.out.drewE
    refine wp_region_held_drew (S:=fun W=>W.cell? ⟨E,5,none⟩=some (.slice (some ⟨bbx,oox,none⟩) 2 c)∧(W.cell? ⟨bbx,oox,none⟩=some (.int .i64 x.kind)∧W.cell? ⟨bbx,oox+1,none⟩=some (.int .i64 x.op)∧W.cell? ⟨bbx,oox+2,none⟩=some (.int .i64 x.int)∧W.cell? ⟨bbx,oox+3,none⟩=some (.string x.name)∧W.cell? ⟨bbx,oox+4,none⟩=some (.bool x.at_)∧W.cell? ⟨bbx,oox+5,none⟩=some (.slice px Nx ccx))∧W.cell? ⟨A,0,none⟩=some (.bool sA)∧W.cell? ⟨A,1,none⟩=some (.int .i64 nA)∧W.cell? ⟨B,0,none⟩=some (.bool sB)∧W.cell? ⟨B,1,none⟩=some (.int .i64 nB)) (by kernel_rfl) (by rw [←HW.out];exact⟨zB (C67.out.b 3 rfl) (j:=5) rfl,C67.out.rd 2 rfl,zB (C67.out.b 2 rfl) (j:=0) rfl,zB (C67.out.b 2 rfl) (j:=1) rfl,zB (C67.out.b 1 rfl) (j:=0) rfl,zB (C67.out.b 1 rfl) (j:=1) rfl⟩) (fun hHeld=>?_)
    rw [←HW.out] at hHeld ⊢
    clear HW C66
    refine rU 0 (some 76) ?_
    refine rU 1 (some 77) ?_
    refine rU 2 (some 78) ?_
    refine rU 3 (some 79) ?_
    refine rU 4 (some 80) ?_
    refine rU 5 (some 81) ?_
    clear hHeld
    refine rR2 6 (some 82) 11 (some 12) (fun K hK=>?_) (fun K hK=>?_)
    ·go_simp
     have hk:=IH.out x (.slice px Nx ccx) w67 HDx.out HVx.out HCx.out HBDx.out (C67.out.rd 3 rfl)
     unfold exprV vV at hk
     rw [HSA.out,HNA.out,HSB.out,HNB.out,HEVx.out] at hk
     dsimp only at hk
     rw [HSx.out,HNNx.out] at hk
     refine hk.mono ?_
     clear hk
     rintro e w68 ⟨rfl,hb9⟩
     have C68:=zh (C67.out.below hb9)
     clear hb9 C67
     go_wp2_with fail
     refine hK.out _ _ ?_ (fun hHeld=>?_)
     ·exact sv_of C68.out 3 2 1 2 rfl rfl rfl rfl
     clear hK K
     try simp only [Act.put,q0,q1,q2]
     refine rU 7 (some 75) ?_
     refine rU 8 (some 83) ?_
     refine rU 9 (some 84) ?_
     refine rU 10 (some 85) ?_
     clear hHeld
     refine rR1 11 (some 12) (fun K hK=>?_)
     obtain⟨X,w69,HX,HW,hx69,C69⟩:=C68.out.boxE #[.bool false,.int .i64 0] 43
     go_simp
     rw [←HX.out,←HW.out]
     clear HX HW C68
     refine hK.out _ _ ?_ (fun hHeld=>?_)
     ·exact sv_of C69.out 4 3 2 2 rfl rfl rfl rfl
     clear hK K
     try simp only [Act.put,q0,q1,q2]
     clear hHeld
     have q0:=cells2 (C69.out.b 0 rfl)
     obtain⟨w70,HW,C70⟩:=C69.out.set2 0 rfl (.bool sx) (.int .i64 nx)
     dsimp only [List.set] at C70
     refine rR1 12 none (fun K hK=>?_)
     go_simp
     rw [←HW.out]
     clear HW C69 q0
     refine hK.out _ _ ?_ (fun hHeld=>?_)
     ·exact sv_of C70.out 4 3 2 2 rfl rfl rfl rfl
     clear hK K
     try simp only [Act.put,q0,q1,q2]
     refine rU 13 (some 13) ?_
     refine rU 14 (some 14) ?_
     refine wpAnyH_done (by kernel_rfl) ?_ _
     clear hHeld
     go_wp2_with fail
     go_meet
     exact⟨X,rfl,rfl,rfl,C70⟩
    ·obtain⟨X,w71,HX,HW,hx71,C71⟩:=C67.out.boxE #[.bool false,.int .i64 0] 43
     go_simp
     rw [←HX.out,←HW.out]
     clear HX HW C67
     refine hK.out _ _ ?_ (fun hHeld=>?_)
     ·exact sv_of C71.out 4 3 2 2 rfl rfl rfl rfl
     clear hK K
     try simp only [Act.put,q0,q1,q2]
     clear hHeld
     refine rR1 6 (some 82) (fun K hK=>?_)
     go_simp
     have hk:=IH.out x (.slice px Nx ccx) w71 HDx.out HVx.out HCx.out HBDx.out (C71.out.rd 3 rfl)
     unfold exprV vV at hk
     rw [HSA.out,HNA.out,HSB.out,HNB.out,HEVx.out] at hk
     dsimp only at hk
     rw [HSx.out,HNNx.out] at hk
     refine hk.mono ?_
     clear hk
     rintro e w72 ⟨rfl,hb9⟩
     have C72:=zh (C71.out.below hb9)
     clear hb9 C71
     go_wp2_with fail
     refine hK.out _ _ ?_ (fun hHeld=>?_)
     ·exact sv_of C72.out 4 3 2 2 rfl rfl rfl rfl
     clear hK K
     try simp only [Act.put,q0,q1,q2]
     refine rU 7 (some 75) ?_
     refine rU 8 (some 83) ?_
     refine rU 9 (some 84) ?_
     refine rU 10 (some 85) ?_
     clear hHeld
     have q0:=cells2 (C72.out.b 0 rfl)
     obtain⟨w73,HW,C73⟩:=C72.out.set2 0 rfl (.bool sx) (.int .i64 nx)
     dsimp only [List.set] at C73
     refine rR1 12 none (fun K hK=>?_)
     go_simp
     rw [←HW.out]
     clear HW C72 q0
     refine hK.out _ _ ?_ (fun hHeld=>?_)
     ·exact sv_of C73.out 4 3 2 2 rfl rfl rfl rfl
     clear hK K
     try simp only [Act.put,q0,q1,q2]
     refine rU 13 (some 13) ?_
     refine rU 14 (some 14) ?_
     refine wpAnyH_done (by kernel_rfl) ?_ _
     clear hHeld
     go_wp2_with fail
     go_meet
     exact⟨X,rfl,rfl,rfl,C73⟩
   case rest=>
   clear C66
   obtain⟨X,rfl,rfl,rfl,C74⟩:=hcut
   obtain⟨w74,hw74⟩:∃q,q=wc:=⟨_,rfl⟩
   rw [←hw74] at C74 ⊢
   clear hw74
   have hk:=zC5 y.deep y (.slice py Ny ccy) w74 (Nat.le_refl _) HBDy.out (C74.out.rd 1 rfl)
   unfold exprV at hk
   rw [HCy.out] at hk
   have HK:=zh hk
   clear hk
   obtain⟨yy0,yy1,yy2,yy3,yy4,yy5⟩:=C74.out.rd 0 rfl
   have q4:=cells6 (C74.out.b 4 rfl)
   have hly9:bbx<w74.heap.size:=zZ yy0
   go_wp2_with fail
   clear hly9 yy0 yy1 yy2 yy3 yy4 yy5 q4
   refine HK.out.mono ?_
   rintro e wcv ⟨rfl,hb9⟩
   have CCV:=zh (C74.out.below hb9)
   clear hb9 HK C74
   by_cases h0:fx=0
   ·subst h0
    have KTx:Hid (∀W,Calls Tryz.prog 48 #[.agg #[.bool sx,.int .i64 nx]] W fun e w'=>e= .returned (.bool (Co.truth vx))∧Below W.heap.size W w'):=zh (fun W=>by have h:=zBM vx W;unfold vV at h;rw [HSx.out,HNNx.out] at h;exact h)
    have KTy:Hid (∀W,Calls Tryz.prog 48 #[.agg #[.bool sy,.int .i64 ny]] W fun e w'=>e= .returned (.bool (Co.truth vy))∧Below W.heap.size W w'):=zh (fun W=>by have h:=zBM vy W;unfold vV at h;rw [HSy.out,HNNy.out] at h;exact h)
    have q4:=cells6 (CCV.out.b 4 rfl)
    go_upto_region 25 with fail
    clear q4
    go_cut [118] (fun s118 wx=>s118= .bool (decide (o=11) && !Co.truth vx||decide (o=12) && Co.truth vx)∧Hid (Mz 0 0 w [] (fun _=>True) [] [(X,#[.bool sx,.int .i64 nx],43),(R,#[.bool false,.int .i64 0],43),(B,#[.bool sB,.int .i64 nB],43),(A,#[.bool sA,.int .i64 nA],43),(E,#[.int .i64 10,.int .i64 o,.int .i64 i,.string nm,.bool at_,.slice (some ⟨bbx,oox,none⟩) 2 c],37)] [CE bbx (oox+6) y (.slice py Ny ccy),RE (.slice py Ny ccy) y.args,CE bbx (oox) x (.slice px Nx ccx),RE (.slice px Nx ccx) x.args,RE (.slice (some ⟨bbx,oox,none⟩) 2 c) [x,y]] wx))
    case first=>
     by_cases ho11:o=11
     ·subst ho11
      cases htx:Co.truth vx
      ·have HTX:=zh htx
       have HBX:Hid ((decide ((11:Int)=11) && !Co.truth vx||decide ((11:Int)=12) && Co.truth vx)=true):=zh (by simp [htx])
       clear htx
       have q4:=cells6 (CCV.out.b 4 rfl)
       have q0:=cells2 (CCV.out.b 0 rfl)
       go_wp2_with fail
       clear q4 q0
       refine(KTx.out _).mono ?_
       rintro e w78 ⟨rfl,hb⟩
       have C79:=zh (CCV.out.below hb)
       clear CCV
       clear hb
       rw [HTX.out]
       have q4:=cells6 (C79.out.b 4 rfl)
       have q0:=cells2 (C79.out.b 0 rfl)
       go_wp2_with fail
       clear q4 q0
       go_meet
       exact⟨by rw [HBX.out],C79⟩
      ·have HTX:=zh htx
       have HBX:Hid ((decide ((11:Int)=11) && !Co.truth vx||decide ((11:Int)=12) && Co.truth vx)=false):=zh (by simp [htx])
       clear htx
       have q4:=cells6 (CCV.out.b 4 rfl)
       have q0:=cells2 (CCV.out.b 0 rfl)
       go_wp2_with fail
       clear q4 q0
       refine(KTx.out _).mono ?_
       rintro e w80 ⟨rfl,hb⟩
       have C81:=zh (CCV.out.below hb)
       clear CCV
       clear hb
       rw [HTX.out]
       have q4:=cells6 (C81.out.b 4 rfl)
       have q0:=cells2 (C81.out.b 0 rfl)
       go_wp2_with fail
       clear q4 q0
       go_meet
       exact⟨by rw [HBX.out],C81⟩
     ·by_cases ho12:o=12
      ·subst ho12
       cases htx:Co.truth vx
       ·have HTX:=zh htx
        have HBX:Hid ((decide ((12:Int)=11) && !Co.truth vx||decide ((12:Int)=12) && Co.truth vx)=false):=zh (by simp [htx])
        clear htx
        have q4:=cells6 (CCV.out.b 4 rfl)
        have q0:=cells2 (CCV.out.b 0 rfl)
        go_wp2_with fail
        clear q4 q0
        refine(KTx.out _).mono ?_
        rintro e w82 ⟨rfl,hb⟩
        have C83:=zh (CCV.out.below hb)
        clear CCV
        clear hb
        rw [HTX.out]
        have q4:=cells6 (C83.out.b 4 rfl)
        have q0:=cells2 (C83.out.b 0 rfl)
        go_wp2_with fail
        clear q4 q0
        go_meet
        exact⟨by rw [HBX.out],C83⟩
       ·have HTX:=zh htx
        have HBX:Hid ((decide ((12:Int)=11) && !Co.truth vx||decide ((12:Int)=12) && Co.truth vx)=true):=zh (by simp [htx])
        clear htx
        have q4:=cells6 (CCV.out.b 4 rfl)
        have q0:=cells2 (CCV.out.b 0 rfl)
        go_wp2_with fail
        clear q4 q0
        refine(KTx.out _).mono ?_
        rintro e w84 ⟨rfl,hb⟩
        have C85:=zh (CCV.out.below hb)
        clear CCV
        clear hb
        rw [HTX.out]
        have q4:=cells6 (C85.out.b 4 rfl)
        have q0:=cells2 (C85.out.b 0 rfl)
        go_wp2_with fail
        clear q4 q0
        go_meet
        exact⟨by rw [HBX.out],C85⟩
      ·have hb11:(o == 11)=false:=beq_eq_false_iff_ne.2 ho11
       have hb12:(o == 12)=false:=beq_eq_false_iff_ne.2 ho12
       have HBX:Hid ((decide (o=11) && !Co.truth vx||decide (o=12) && Co.truth vx)=false):=zh (by simp [ho11,ho12])
       clear ho11 ho12
       have q4:=cells6 (CCV.out.b 4 rfl)
       have q0:=cells2 (CCV.out.b 0 rfl)
       go_wp2_with fail
       clear q4 q0
       go_meet
       exact⟨by rw [HBX.out],CCV⟩
    case rest=>
    clear CCV
    obtain⟨rfl,CW9⟩:=hcut
    obtain⟨w9c,hw9c⟩:∃q,q=wc:=⟨_,rfl⟩
    rw [←hw9c] at CW9 ⊢
    clear hw9c
    obtain⟨B3,hB3⟩:∃q,(decide (o=11) && !Co.truth vx||decide (o=12) && Co.truth vx)=q:=⟨_,rfl⟩
    rw [hB3]
    have HB3:=zh hB3
    clear hB3
    cases B3
    ·have q4:=cells6 (CW9.out.b 4 rfl)
     have q0:=cells2 (CW9.out.b 0 rfl)
     go_upto_region 27 with fail
     clear q4 q0
     go_cut [15,13,14] (fun s15 s13 s14 wx=>∃Y:Nat,s15= .pointer (some ⟨Y,0,none⟩)∧s13= .int .i64 fy∧s14= .bool true∧Hid (Mz 0 0 w [] (fun _=>True) [] [(Y,#[.bool sy,.int .i64 ny],43),(X,#[.bool sx,.int .i64 nx],43),(R,#[.bool false,.int .i64 0],43),(B,#[.bool sB,.int .i64 nB],43),(A,#[.bool sA,.int .i64 nA],43),(E,#[.int .i64 10,.int .i64 o,.int .i64 i,.string nm,.bool at_,.slice (some ⟨bbx,oox,none⟩) 2 c],37)] [CE bbx (oox+6) y (.slice py Ny ccy),RE (.slice py Ny ccy) y.args,CE bbx (oox) x (.slice px Nx ccx),RE (.slice px Nx ccx) x.args,RE (.slice (some ⟨bbx,oox,none⟩) 2 c) [x,y]] wx))
     case first=>
      obtain⟨w91,HW,C91⟩:=CW9.out.drewE
      refine wp_region_held_drew (S:=fun W=>W.cell? ⟨E,5,none⟩=some (.slice (some ⟨bbx,oox,none⟩) 2 c)∧(W.cell? ⟨bbx,oox+6,none⟩=some (.int .i64 y.kind)∧W.cell? ⟨bbx,oox+6+1,none⟩=some (.int .i64 y.op)∧W.cell? ⟨bbx,oox+6+2,none⟩=some (.int .i64 y.int)∧W.cell? ⟨bbx,oox+6+3,none⟩=some (.string y.name)∧W.cell? ⟨bbx,oox+6+4,none⟩=some (.bool y.at_)∧W.cell? ⟨bbx,oox+6+5,none⟩=some (.slice py Ny ccy))∧W.cell? ⟨A,0,none⟩=some (.bool sA)∧W.cell? ⟨A,1,none⟩=some (.int .i64 nA)∧W.cell? ⟨B,0,none⟩=some (.bool sB)∧W.cell? ⟨B,1,none⟩=some (.int .i64 nB)) (by kernel_rfl) (by rw [←HW.out];exact⟨zB (C91.out.b 4 rfl) (j:=5) rfl,C91.out.rd 0 rfl,zB (C91.out.b 3 rfl) (j:=0) rfl,zB (C91.out.b 3 rfl) (j:=1) rfl,zB (C91.out.b 2 rfl) (j:=0) rfl,zB (C91.out.b 2 rfl) (j:=1) rfl⟩) (fun hHeld=>?_)
      rw [←HW.out] at hHeld ⊢
      clear HW CW9
      refine rU 0 (some 123) ?_
      refine rU 1 (some 124) ?_
      refine rU 2 (some 125) ?_
      refine rU 3 (some 126) ?_
      refine rU 4 (some 127) ?_
      refine rU 5 (some 128) ?_
      clear hHeld
      refine rR2 6 (some 129) 11 (some 15) (fun K hK=>?_) (fun K hK=>?_)
      ·go_simp
       have hk:=IH.out y (.slice py Ny ccy) w91 HDy.out HVy.out HCy.out HBDy.out (C91.out.rd 1 rfl)
       unfold exprV vV at hk
       rw [HSA.out,HNA.out,HSB.out,HNB.out,HEVy.out] at hk
       dsimp only at hk
       rw [HSy.out,HNNy.out] at hk
       refine hk.mono ?_
       clear hk
       rintro e w92 ⟨rfl,hb9⟩
       have C92:=zh (C91.out.below hb9)
       clear hb9 C91
       go_wp2_with fail
       refine hK.out _ _ ?_ (fun hHeld=>?_)
       ·exact sv_of C92.out 4 3 2 0 rfl rfl rfl rfl
       clear hK K
       try simp only [Act.put,q0,q1,q2]
       refine rU 7 (some 122) ?_
       refine rU 8 (some 130) ?_
       refine rU 9 (some 131) ?_
       refine rU 10 (some 132) ?_
       clear hHeld
       refine rR1 11 (some 15) (fun K hK=>?_)
       obtain⟨Y,w93,HX,HW,hx93,C93⟩:=C92.out.boxE #[.bool false,.int .i64 0] 43
       go_simp
       rw [←HX.out,←HW.out]
       clear HX HW C92
       refine hK.out _ _ ?_ (fun hHeld=>?_)
       ·exact sv_of C93.out 5 4 3 0 rfl rfl rfl rfl
       clear hK K
       try simp only [Act.put,q0,q1,q2]
       clear hHeld
       have q0:=cells2 (C93.out.b 0 rfl)
       obtain⟨w94,HW,C94⟩:=C93.out.set2 0 rfl (.bool sy) (.int .i64 ny)
       dsimp only [List.set] at C94
       refine rR1 12 none (fun K hK=>?_)
       go_simp
       rw [←HW.out]
       clear HW C93 q0
       refine hK.out _ _ ?_ (fun hHeld=>?_)
       ·exact sv_of C94.out 5 4 3 0 rfl rfl rfl rfl
       clear hK K
       try simp only [Act.put,q0,q1,q2]
       refine rU 13 (some 13) ?_
       refine rU 14 (some 14) ?_
       refine wpAnyH_done (by kernel_rfl) ?_ _
       clear hHeld
       go_wp2_with fail
       go_meet
       exact⟨Y,rfl,rfl,rfl,C94⟩
      ·obtain⟨Y,w95,HX,HW,hx95,C95⟩:=C91.out.boxE #[.bool false,.int .i64 0] 43
       go_simp
       rw [←HX.out,←HW.out]
       clear HX HW C91
       refine hK.out _ _ ?_ (fun hHeld=>?_)
       ·exact sv_of C95.out 5 4 3 0 rfl rfl rfl rfl
       clear hK K
       try simp only [Act.put,q0,q1,q2]
       clear hHeld
       refine rR1 6 (some 129) (fun K hK=>?_)
       go_simp
       have hk:=IH.out y (.slice py Ny ccy) w95 HDy.out HVy.out HCy.out HBDy.out (C95.out.rd 1 rfl)
       unfold exprV vV at hk
       rw [HSA.out,HNA.out,HSB.out,HNB.out,HEVy.out] at hk
       dsimp only at hk
       rw [HSy.out,HNNy.out] at hk
       refine hk.mono ?_
       clear hk
       rintro e w96 ⟨rfl,hb9⟩
       have C96:=zh (C95.out.below hb9)
       clear hb9 C95
       go_wp2_with fail
       refine hK.out _ _ ?_ (fun hHeld=>?_)
       ·exact sv_of C96.out 5 4 3 0 rfl rfl rfl rfl
       clear hK K
       try simp only [Act.put,q0,q1,q2]
       refine rU 7 (some 122) ?_
       refine rU 8 (some 130) ?_
       refine rU 9 (some 131) ?_
       refine rU 10 (some 132) ?_
       clear hHeld
       have q0:=cells2 (C96.out.b 0 rfl)
       obtain⟨w97,HW,C97⟩:=C96.out.set2 0 rfl (.bool sy) (.int .i64 ny)
       dsimp only [List.set] at C97
       refine rR1 12 none (fun K hK=>?_)
       go_simp
       rw [←HW.out]
       clear HW C96 q0
       refine hK.out _ _ ?_ (fun hHeld=>?_)
       ·exact sv_of C97.out 5 4 3 0 rfl rfl rfl rfl
       clear hK K
       try simp only [Act.put,q0,q1,q2]
       refine rU 13 (some 13) ?_
       refine rU 14 (some 14) ?_
       refine wpAnyH_done (by kernel_rfl) ?_ _
       clear hHeld
       go_wp2_with fail
       go_meet
       exact⟨Y,rfl,rfl,rfl,C97⟩
     case rest=>
     clear CW9
     obtain⟨Y,rfl,rfl,rfl,C98⟩:=hcut
     obtain⟨w98,hw98⟩:∃q,q=wc:=⟨_,rfl⟩
     rw [←hw98] at C98 ⊢
     clear hw98
     by_cases h1:fy=0
     ·subst h1
      by_cases ho11:o=11
      ·subst ho11
       obtain rfl:EVX=(some (Co.bit (Co.truth vy)),0,true):=by rw [←HE0.out,if_neg (by simp),if_neg (by simp),if_neg (by have h9:=HB3.out;simpa using h9),if_neg (by simp),if_pos (by simp)]
       clear HE0
       have KB:Hid (∀W,Calls Tryz.prog 47 #[.bool (Co.truth vy)] W fun e w'=>e= .returned (.agg #[.bool true,.int .i64 (Co.bit (Co.truth vy))])∧Below W.heap.size W w'):=zh (fun W=>zAG _ W)
       obtain⟨Z,hZ⟩:∃q,Co.bit (Co.truth vy)=q:=⟨_,rfl⟩
       have HZ:=zh hZ
       rw [hZ] at KB
       clear hZ
       have q5:=cells6 (C98.out.b 5 rfl)
       have q0:=cells2 (C98.out.b 0 rfl)
       go_wp2_with fail
       clear q5 q0
       refine(KTy.out _).mono ?_
       rintro e w101 ⟨rfl,hb⟩
       have C102:=zh (C98.out.below hb)
       clear C98
       clear hb
       go_wp2_with fail
       refine(KB.out _).mono ?_
       rintro e w103 ⟨rfl,hb⟩
       have C104:=zh (C102.out.below hb)
       clear C102
       clear hb
       have q2:=cells2 (C104.out.b 2 rfl)
       obtain⟨w105,HW,C105⟩:=C104.out.set2 2 rfl (.bool true) (.int .i64 Z)
       dsimp only [List.set] at C105
       go_wp2_with fail
       rw [←HW.out]
       clear HW C104 q2
       exact Mz.retA2 C105.out 2 rfl Tryz.results22 rfl rfl rfl rfl ⟨_,Tryz.underlying43⟩ (by kernel_rfl) ⟨by rw [←HZ.out];rfl,C105.out.gr.fresh⟩
      ·by_cases ho12:o=12
       ·subst ho12
        obtain rfl:EVX=(some (Co.bit (Co.truth vy)),0,true):=by rw [←HE0.out,if_neg (by simp),if_neg (by simp),if_neg (by have h9:=HB3.out;simpa using h9),if_neg (by simp),if_pos (by simp)]
        clear HE0
        have KB:Hid (∀W,Calls Tryz.prog 47 #[.bool (Co.truth vy)] W fun e w'=>e= .returned (.agg #[.bool true,.int .i64 (Co.bit (Co.truth vy))])∧Below W.heap.size W w'):=zh (fun W=>zAG _ W)
        obtain⟨Z,hZ⟩:∃q,Co.bit (Co.truth vy)=q:=⟨_,rfl⟩
        have HZ:=zh hZ
        rw [hZ] at KB
        clear hZ
        have q5:=cells6 (C98.out.b 5 rfl)
        have q0:=cells2 (C98.out.b 0 rfl)
        go_wp2_with fail
        clear q5 q0
        refine(KTy.out _).mono ?_
        rintro e w106 ⟨rfl,hb⟩
        have C107:=zh (C98.out.below hb)
        clear C98
        clear hb
        go_wp2_with fail
        refine(KB.out _).mono ?_
        rintro e w108 ⟨rfl,hb⟩
        have C109:=zh (C107.out.below hb)
        clear C107
        clear hb
        have q2:=cells2 (C109.out.b 2 rfl)
        obtain⟨w110,HW,C110⟩:=C109.out.set2 2 rfl (.bool true) (.int .i64 Z)
        dsimp only [List.set] at C110
        go_wp2_with fail
        rw [←HW.out]
        clear HW C109 q2
        exact Mz.retA2 C110.out 2 rfl Tryz.results22 rfl rfl rfl rfl ⟨_,Tryz.underlying43⟩ (by kernel_rfl) ⟨by rw [←HZ.out];rfl,C110.out.gr.fresh⟩
       ·have hb11:(o == 11)=false:=beq_eq_false_iff_ne.2 ho11
        have hb12:(o == 12)=false:=beq_eq_false_iff_ne.2 ho12
        have HO11:=zh ho11
        have HO12:=zh ho12
        clear ho11 ho12
        obtain rfl:EVX=((Co.operate 7 2 o vx vy).1,(Co.operate 7 2 o vx vy).2,true):=by rw [←HE0.out,if_neg (by simp),if_neg (by simp),if_neg (by have h9:=HB3.out;simpa using h9),if_neg (by simp),if_neg (by have:=HO11.out;have:=HO12.out;omega)]
        clear HE0
        have KO:Hid (∀W,Calls Tryz.prog 50 #[.int .i64 o,.agg #[.bool sx,.int .i64 nx],.agg #[.bool sy,.int .i64 ny]] W fun e w'=>e= .returned (.tuple #[.agg #[.bool (Co.operate 7 2 o vx vy).1.isSome,.int .i64 ((Co.operate 7 2 o vx vy).1.getD 0)],.int .i64 (Co.operate 7 2 o vx vy).2])∧Below W.heap.size W w'):=zh (fun W=>by have h:=zE9 o vx vy HO0.out (by have:=HO11.out;have:=HO12.out;have:=HO1.out;omega) W;unfold vV at h;rw [HSx.out,HNNx.out,HSy.out,HNNy.out] at h;exact h)
        obtain⟨sz,hsz⟩:∃q,(Co.operate 7 2 o vx vy).1.isSome=q:=⟨_,rfl⟩
        obtain⟨nz,hnz⟩:∃q,(Co.operate 7 2 o vx vy).1.getD 0=q:=⟨_,rfl⟩
        obtain⟨fz,hfz⟩:∃q,(Co.operate 7 2 o vx vy).2=q:=⟨_,rfl⟩
        rw [hsz,hnz,hfz] at KO
        have HZ:=zh hsz
        have HZ2:=zh hnz
        have HZ3:=zh hfz
        clear hsz hnz hfz
        have q5:=cells6 (C98.out.b 5 rfl)
        have q1:=cells2 (C98.out.b 1 rfl)
        have q0:=cells2 (C98.out.b 0 rfl)
        go_wp2_with fail
        clear q5 q1 q0
        refine(KO.out _).mono ?_
        rintro e w111 ⟨rfl,hb⟩
        have C112:=zh (C98.out.below hb)
        clear C98
        clear hb
        have q1:=cells2 (C112.out.b 1 rfl)
        obtain⟨w113,HW,C113⟩:=C112.out.set2 1 rfl (.bool sz) (.int .i64 nz)
        dsimp only [List.set] at C113
        go_upto_region 33 with fail
        rw [←HW.out]
        clear HW C112 q1
        have q2:=cells2 (C113.out.b 2 rfl)
        have q1:=cells2 (C113.out.b 1 rfl)
        obtain⟨w114,HW,C114⟩:=C113.out.set2 2 rfl (.bool sz) (.int .i64 nz)
        dsimp only [List.set] at C114
        go_wp2_with fail
        rw [←HW.out]
        clear HW C113 q2 q1
        exact Mz.retA2 C114.out 2 rfl Tryz.results22 rfl rfl rfl rfl ⟨_,Tryz.underlying43⟩ (by kernel_rfl) ⟨by rw [←HZ.out,←HZ2.out,←HZ3.out];rfl,C114.out.gr.fresh⟩
     ·have hb0:((fy:Int) == 0)=false:=beq_eq_false_iff_ne.2 (by omega)
      obtain rfl:EVX=(none,fy,true):=by rw [←HE0.out,if_neg (by simp),if_neg (by simp),if_neg (by have h9:=HB3.out;simpa using h9),if_pos (.inl h1)]
      clear HE0
      have q2:=cells2 (C98.out.b 2 rfl)
      have q5:=cells6 (C98.out.b 5 rfl)
      have q0:=cells2 (C98.out.b 0 rfl)
      obtain⟨w99,HW,C99⟩:=C98.out.set2 2 rfl (.bool false) (.int .i64 0)
      dsimp only [List.set] at C99
      go_wp2_with fail
      rw [←HW.out]
      clear HW C98 q2 q5 q0
      exact Mz.retA2 C99.out 2 rfl Tryz.results22 rfl rfl rfl rfl ⟨_,Tryz.underlying43⟩ (by kernel_rfl) ⟨rfl,C99.out.gr.fresh⟩
    ·obtain rfl:EVX=(some (Co.bit (Co.truth vx)),0,true):=by rw [←HE0.out,if_neg (by simp),if_neg (by simp),if_pos (by have h9:=HB3.out;simpa using h9)]
     clear HE0
     have KB:Hid (∀W,Calls Tryz.prog 47 #[.bool (Co.truth vx)] W fun e w'=>e= .returned (.agg #[.bool true,.int .i64 (Co.bit (Co.truth vx))])∧Below W.heap.size W w'):=zh (fun W=>zAG _ W)
     obtain⟨Z,hZ⟩:∃q,Co.bit (Co.truth vx)=q:=⟨_,rfl⟩
     have HZ:=zh hZ
     rw [hZ] at KB
     clear hZ
     have q4:=cells6 (CW9.out.b 4 rfl)
     have q0:=cells2 (CW9.out.b 0 rfl)
     go_wp2_with fail
     clear q4 q0
     refine(KTx.out _).mono ?_
     rintro e w86 ⟨rfl,hb⟩
     have C87:=zh (CW9.out.below hb)
     clear CW9
     clear hb
     go_wp2_with fail
     refine(KB.out _).mono ?_
     rintro e w88 ⟨rfl,hb⟩
     have C89:=zh (C87.out.below hb)
     clear C87
     clear hb
     have q1:=cells2 (C89.out.b 1 rfl)
     obtain⟨w90,HW,C90⟩:=C89.out.set2 1 rfl (.bool true) (.int .i64 Z)
     dsimp only [List.set] at C90
     go_wp2_with fail
     rw [←HW.out]
     clear HW C89 q1
     exact Mz.retA2 C90.out 1 rfl Tryz.results22 rfl rfl rfl rfl ⟨_,Tryz.underlying43⟩ (by kernel_rfl) ⟨by rw [←HZ.out];rfl,C90.out.gr.fresh⟩
   ·have hb0:((fx:Int) == 0)=false:=beq_eq_false_iff_ne.2 (by omega)
    obtain rfl:EVX=(none,fx,true):=by rw [←HE0.out,if_neg (by simp),if_pos h0]
    clear HE0
    have q1:=cells2 (CCV.out.b 1 rfl)
    have q4:=cells6 (CCV.out.b 4 rfl)
    have q0:=cells2 (CCV.out.b 0 rfl)
    obtain⟨w77,HW,C77⟩:=CCV.out.set2 1 rfl (.bool false) (.int .i64 0)
    dsimp only [List.set] at C77
    go_wp2_with fail
    rw [←HW.out]
    clear HW CCV q1 q4 q0
    exact Mz.retA2 C77.out 1 rfl Tryz.results22 rfl rfl rfl rfl ⟨_,Tryz.underlying43⟩ (by kernel_rfl) ⟨rfl,C77.out.gr.fresh⟩
end Cw
end Go.Proofs.YtcnmfcgmnkncaaaGreatDoor
