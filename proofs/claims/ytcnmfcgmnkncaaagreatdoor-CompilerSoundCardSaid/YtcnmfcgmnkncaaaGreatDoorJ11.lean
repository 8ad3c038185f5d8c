/-
  fold of the program, walked.
-/
import Derived.Test.YtcnmfcgmnkncaaaGreatDoorJ6
import Derived.Test.YtcnmfcgmnkncaaaGreatDoorJ10
namespace Go.Proofs.YtcnmfcgmnkncaaaGreatDoor
namespace Cw
open Go.RowKit Go.Maps Pw
theorem h8_p {l:List Tr.E} {j:Nat} {y:Tr.E} (hv:Tr.validEs l=true) (h:l[j]? =some y):y.kind=8→y.args≠ []:=by
 intro hk e
 have h2:=zG hv h
 obtain⟨k,o,i,nm,at_,l⟩:=y
 have e':l= []:=e
 have hk':k=8:=hk
 subst e' hk'
 have h3:=(Co.zF h2).2
 unfold Tr.okE at h3
 simp at h3
set_option maxRecDepth 100000 in
set_option maxHeartbeats 40000000 in
theorem zMU:∀(d:Nat) (e:Tr.E) (a:Value) (w:World),e.deep≤d→Co.wE e≤900000→Tr.validE e=true→BdE e→SlE w a e.args→Calls Tryz.prog 41 #[exprV e a] w (FP (Co.fold e) w):=by
 intro d
 induction d with
 |zero=>intro e a w hd;have:=e.deep_pos;omega
 |succ d ih=>
  intro e a w hd hw hv hbd hS
  obtain⟨i0,hi0,hz0,hz1,hz2⟩:=info_parts exprInfo
  obtain⟨k,o,i,nm,at_,l⟩:=e
  have hvl:=(Co.zF hv).1
  have hS':SlE w a l:=hS
  obtain⟨p,c,rfl,_⟩:=hS'.form
  have hNw:l.length≤900000:=Nat.le_trans (wE_len (e:= .mk k o i nm at_ l)) hw
  obtain⟨N,hN⟩:∃q,l.length=q:=⟨_,rfl⟩
  rw [hN] at hS' hNw
  have HIH:Hid (∀(j:Nat) (x:Tr.E) (aa:Value) (W:World),l[j]? =some x→BdE x→SlE W aa x.args→Calls Tryz.prog 41 #[exprV x aa] W (FP (Co.fold x) W)):=zh (fun j x aa W hj hb hs=>ih x aa W (Tr.E.deep_args hd (e:= .mk k o i nm at_ l) hj) (Nat.le_trans (Nat.le_trans (zKS hj) (zTG (e:= .mk k o i nm at_ l))) hw) (zG hvl hj) hb hs)
  have HBD:Hid (BdE (.mk k o i nm at_ (Co.folds l))):=zh ⟨hbd.kind,hbd.op,hbd.int,hbd.name⟩
  have HBK:=zh hbd
  have HS:=zh hS'
  have HN:=zh hN
  have HV:=zh hv
  obtain⟨X,hX⟩:∃q,Co.fold (.mk k o i nm at_ l)=q:=⟨_,rfl⟩
  rw [hX]
  have HX:Hid (Co.top (.mk k o i nm at_ (Co.folds l))=X):=zh (by rw [←hX,Co.fold])
  unfold exprV
  simp only [Tr.E.kind,Tr.E.op,Tr.E.int,Tr.E.name,Tr.E.at_]
  rw [hN]
  have C0:=zh (My.start w)
  clear hd hw hv hbd hS hS' hvl hN hX ih
  obtain⟨E,w1,HX1,HW1,hx1,C1⟩:=C0.out.boxE #[.int .i64 k,.int .i64 o,.int .i64 i,.string nm,.bool at_,.slice p N c] 37
  obtain⟨R,w2,HX2,HW2,hx2,C2⟩:=C1.out.boxE #[.int .i64 0,.int .i64 0,.int .i64 0,.string ⟨#[]⟩,.bool false,.slice none 0 0] 37
  have HY2:Hid (R=E+1):=zh (by rw [HX2.out,HW1.out,HX1.out];simp)
  go_enter Tryz.func41,Tryz.ntmps41
  go_upto_region 1 with fail
  rw [←HX1.out,←HW1.out,←HY2.out,←HW2.out]
  clear HX1 HW1 C0 HY2 HX2 HW2 C1
  have q1:=cells6 (C2.out.b 1 rfl)
  go_wp2_with (at_make;refine wpList_make_own w2 rfl _ _ 35 rfl w.heap.size 37 i0 (.agg #[.int .i64 0,.int .i64 0,.int .i64 0,.string ⟨#[]⟩,.bool false,.slice none 0 0]) 6 Tryz.underlying35 hi0 hz0 hz1 .i64 .i64 _ N rfl rfl rfl (by rw [hz2];omega) (by unfold maxLen;omega) C2.out.le ?_;intro wm hown hgm;have HR0:Hid (RowOk eCells 6 37 ReadET w.heap.size [R,E] wm (.slice (some ⟨w2.heap.size,0,none⟩) 0 N) []):=zh (RowOk.made hown (fun q hq=>(C2.out.lts hq).2.1));have CM:=zh (My.push C2.out hgm (fun _ e=>by cases e));have q9:=cells6 (CM.out.b 1 rfl))
  clear hown hgm q9 q1
  go_loopg [3,19] N (fun gg s3 s19 wr=>∃j:Nat,s19= .int .i64 j∧j≤N∧gg=N -j∧∃tr:List ET,Hid (tr.map Prod.fst=Co.folds (l.take j))∧Hid (My w [(R,#[.int .i64 0,.int .i64 0,.int .i64 0,.string ⟨#[]⟩,.bool false,.slice none 0 0],37),(E,#[.int .i64 k,.int .i64 o,.int .i64 i,.string nm,.bool at_,.slice p N c],37)] [] wr)∧Hid (RowOk eCells 6 37 ReadET w.heap.size [R,E] wr s3 tr))
  case atStart=>exact ⟨0,rfl,Nat.zero_le _,rfl,[],zh (by rw [List.take_zero,Co.folds];rfl),CM,HR0⟩
  case round=>
   clear CM HR0
   obtain⟨j,rfl,hj,rfl,tr,HTR,CR,HST⟩:=hrel
   have htl:tr.length=j:=by
    have h9:=congrArg List.length HTR.out
    rw [List.length_map,Co.zAB,List.length_take,HN.out] at h9
    omega
   obtain⟨pq,cq,rfl⟩:=own_form HST.out.own
   rw [htl] at HST ⊢
   have HTL:=zh htl
   clear htl
   by_cases hlt:j<N
   ·obtain⟨x,hx⟩:∃x,l[j]? =some x:=⟨_,List.getElem?_eq_getElem (by rw [HN.out];exact hlt)⟩
    obtain⟨b,oo,aa,rfl,hblt,hc,hbdx,hsl⟩:=(HS.out.keep (My.fin CR.out)).get hx
    obtain⟨x0,x1,x2,x3,x4,x5⟩:=hc
    obtain⟨pa0,ca0,rfl,_⟩:=hsl.form
    obtain⟨AX,hAX⟩:∃N,x.args.length=N:=⟨_,rfl⟩
    rw [hAX] at x5
    have hbdf:=hbdx
    have HFS:Hid (Co.folds (l.take (j+1))=Co.folds (l.take j)++ [Co.fold x]):=zh (zHU hx)
    have b3j:(j:Int)<(N:Int):=by omega
    have b0j:(0:Int)≤(j:Int):=by omega
    obtain⟨w4,HW4⟩:∃q,Hid (q=wr.alloc (.cells #[.int .i64 x.kind,.int .i64 x.op,.int .i64 x.int,.string x.name,.bool x.at_,.slice pa0 AX ca0] 37)):=⟨_,zh rfl⟩
    have hb4:Below wr.heap.size wr w4:=by rw [HW4.out];exact zD _ _
    have C4:=zh (CR.out.below hb4)
    have HST4:=zh (HST.out.below zJ hb4)
    have KI:=zh (HIH.out j x (.slice pa0 AX ca0) w4 hx hbdx (by have:=hsl.keep hb4;rw [hAX] at this;exact this))
    unfold exprV at KI
    clear hsl hx hbdx hbdf hAX HST hb4 CR
    go_wp2_with fail
    rw [←HW4.out]
    refine KI.out.mono ?_
    rintro e w5 ⟨a',rfl,hbdy,hsy,hb5⟩
    obtain⟨py,cy,rfl,_⟩:=hsy.form
    obtain⟨y,hy⟩:∃q,Co.fold x=q:=⟨_,rfl⟩
    rw [hy] at HFS hbdy hsy ⊢
    obtain⟨AN,hAN⟩:∃N,y.args.length=N:=⟨_,rfl⟩
    rw [hAN] at hsy ⊢
    obtain⟨w6,HW6⟩:∃q,Hid (q=w5.alloc (.cells #[.int .i64 y.kind,.int .i64 y.op,.int .i64 y.int,.string y.name,.bool y.at_,.slice py AN cy] 37)):=⟨_,zh rfl⟩
    obtain⟨h1,h2,h3,h4,h5,h6,h7⟩:=My.newE C4.out HST4.out hb5 hbdy hsy HW6.out
    have C6:=zh h1
    have HST6:=zh h2
    have HSRC:=zh h3
    have HNEW:=zh h4
    have HONE:=zh h5
    have HBS:=zh h6
    have HLW:=zh h7
    unfold exprV
    clear h1 h2 h3 h4 h5 h6 h7 hbdy hsy hb5 hAN hy KI C4 HST4 x0 x1 x2 x3 x4 x5 HW4
    have HLEN:Hid (tr.length≤900000):=zh (by rw [HTL.out];omega)
    go_wp2_with (at_builtin;rw [←HW6.out];refine zDL zA7 zJ rfl _ _ 35 rfl i0 (.agg #[.int .i64 0,.int .i64 0,.int .i64 0,.string ⟨#[]⟩,.bool false,.slice none 0 0]) 72 Tryz.underlying35 hi0 hz0 hz1 hz2 rfl (by decide) _ _ rfl rfl HST6.out HSRC.out HNEW.out HONE.out (by have:=HLEN.out;simp only [List.length_cons,List.length_nil];unfold maxLen;omega) (by have:=HLEN.out;simp only [List.length_cons,List.length_nil];omega) HBS.out ?_ HLW.out;intro v7 w7 hr7 hg7;obtain⟨p7,c7,rfl⟩:=own_form hr7.own;have C7:=zh (My.pushed C6.out HST6.out hg7);have HR7:=zh hr7;clear hr7 hg7)
    go_roundg (N -(j+1))
    case measure=>omega
    case rel=>exact ⟨j+1,by go_num,by omega,rfl,tr++ [(y,.slice py AN cy)],zh (by rw [List.map_append,HTR.out,HFS.out];rfl),C7,by rw [List.length_append] at HR7;exact HR7⟩
   ·obtain rfl:j=N:=by omega
    have htr:=HTR.out
    rw [List.take_of_length_le (by rw [HN.out];exact Nat.le_refl _)] at htr
    have hc9:=My.row CR.out HST.out
    rw [htr] at hc9
    have CZ:=zh hc9
    clear htr hc9 CR HST HTR HIH HTL
    have q1:=cells6 (CZ.out.b 1 rfl)
    obtain⟨w3,HW⟩:∃q,Hid (q=(wr.setCell ⟨E,5,none⟩ (.slice pq j cq))):=⟨_,zh rfl⟩
    have C3:=zh ((CZ.out.set (W':=w3) 1 rfl (by rw [HW.out];exact zH wr E 5 (.slice pq j cq)) (by rw [HW.out];exact(heap_set (j:=5) (.slice pq j cq) (CZ.out.b 1 rfl)))).nrm (bs':= [(R,#[.int .i64 0,.int .i64 0,.int .i64 0,.string ⟨#[]⟩,.bool false,.slice none 0 0],37),(E,#[.int .i64 k,.int .i64 o,.int .i64 i,.string nm,.bool at_,.slice pq j cq],37)]) rfl)
    go_upto_region 8 with fail
    rw [←HW.out]
    clear HW CZ q1
    have HSL:=zh (C3.out.rd 0 rfl)
    by_cases hk:k=8∨k=9∨k=10
    ·rcases hk with h8|h9|h10
     ·subst h8
      have hN1:j=1:=by
       have h9:=(Co.zF HV.out).2
       unfold Tr.okE at h9
       simp at h9
       have h7:=HN.out
       omega
      subst hN1
      have HVF:Hid (Tr.validEs (Co.folds l)=true):=zh (Co.zAA l (Co.zF HV.out).1)
      obtain⟨y0,hy0⟩:∃y,(Co.folds l)[0]? =some y:=⟨_,List.getElem?_eq_getElem (by rw [Co.zAB,HN.out];omega)⟩
      obtain⟨b0,o0,ay0,he0,_,hcy0,hby0,hsy0⟩:=HSL.out.get hy0
      cases he0
      obtain⟨s0_0,s0_1,s0_2,s0_3,s0_4,s0_5⟩:=hcy0
      obtain⟨pb0,cb0,rfl,_⟩:=hsy0.form
      obtain⟨NB0,hNB0⟩:∃q,y0.args.length=q:=⟨_,rfl⟩
      have HK0:=zh (zC6 y0 (.slice pb0 y0.args.length cb0) w3 hby0 hsy0 (h8_p HVF.out hy0))
      have HCB0:Hid (∀v,Co.const y0=some v→ -2305843009213693951≤v∧v≤2305843009213693951):=zh (fun v h=>Co.zBP (zG HVF.out hy0) h)
      have HE0:=zh hy0
      rw [hNB0] at HK0 s0_5
      unfold exprV at HK0
      simp only [Nat.zero_mul,Nat.add_zero] at s0_0 s0_1 s0_2 s0_3 s0_4 s0_5
      clear hy0 hby0 hsy0 hNB0
      have q1:=cells6 (C3.out.b 1 rfl)
      go_wp2_with fail
      clear q1
      refine HK0.out.mono ?_
      rintro e w4 ⟨rfl,hb⟩
      have C5:=zh (C3.out.below hb)
      clear C3
      clear hb
      clear s0_0 s0_1 s0_2 s0_3 s0_4 s0_5 HK0
      have HSL4:=zh (C5.out.rd 0 rfl)
      clear HSL
      have HSL:=HSL4
      clear HSL4
      cases hcn0:Co.const y0 with
      |none=>
       have HCN0:=zh hcn0
       clear hcn0 HCB0
       simp only [Option.getD_none,Option.isSome_none]
       have hxe:X= .mk 8 o i nm at_ (Co.folds l):=by
        rw [←HX.out]
        unfold Co.top
        dsimp only
        rw [if_pos (by omega)]
        have hh0:((Co.folds l).head?.bind Co.const:Option Int)=Co.const y0:=by rw [List.head?_eq_getElem?,HE0.out];rfl
        rw [hh0,HCN0.out]
        try dsimp only
       subst hxe
       have q1:=cells6 (C5.out.b 1 rfl)
       have q0:=cells6 (C5.out.b 0 rfl)
       go_wp2_with fail
       exact My.retE C5.out (a:= .slice (some ⟨b0,o0,none⟩) 1 cq) (x:= .mk 8 o i nm at_ (Co.folds l)) 0 rfl Tryz.results41 rfl rfl HBD.out
      |some v0=>
       have HCN0:=zh hcn0
       have hvb0:=HCB0.out _ hcn0
       clear hcn0 HCB0
       simp only [Option.getD_some,Option.isSome_some]
       have hxe:X=Co.repl (.mk 8 o i nm at_ (Co.folds l)) (-v0):=by
        rw [←HX.out]
        unfold Co.top
        dsimp only
        rw [if_pos (by omega)]
        have hh0:((Co.folds l).head?.bind Co.const:Option Int)=Co.const y0:=by rw [List.head?_eq_getElem?,HE0.out];rfl
        rw [hh0,HCN0.out]
        try dsimp only
        rw [if_pos rfl]
       have HXE:=zh hxe
       clear hxe
       have HQN:Hid (Q62p (-v0)):=zh ⟨by omega,by omega⟩
       have hwn:wrap64 (-v0)= -v0:=by unfold wrap64;omega
       have q1:=cells6 (C5.out.b 1 rfl)
       have q0:=cells6 (C5.out.b 0 rfl)
       go_wp2_with fail
       refine(zAW (.mk 8 o i nm at_ (Co.folds l)) (-v0) (.slice (some ⟨b0,o0,none⟩) 1 cq) w4 HQN.out ⟨_,_,_,rfl⟩).mono ?_
       rintro e w7 hp9
       obtain⟨a9,rfl,C7⟩:=My.repl C5.out hp9
       clear hp9 C5
       obtain⟨p9,c9,rfl,_⟩:=(C7.out.rd 0 rfl).form
       have HBR:=zh (zBG HBD.out HQN.out)
       rw [←HXE.out] at C7 HBR ⊢
       obtain⟨YN,hYN⟩:∃q,X.args.length=q:=⟨_,rfl⟩
       rw [hYN] at C7 ⊢
       clear hYN
       have q0:=cells6 (C7.out.b 0 rfl)
       unfold exprV
       go_wp2_with fail
       exact My.retE C7.out (x:=X) (a:= .slice p9 YN c9) 0 rfl Tryz.results41 rfl rfl HBR.out
     ·subst h9
      have hN1:j=1:=by
       have h9:=(Co.zF HV.out).2
       unfold Tr.okE at h9
       simp at h9
       have h7:=HN.out
       omega
      subst hN1
      have HVF:Hid (Tr.validEs (Co.folds l)=true):=zh (Co.zAA l (Co.zF HV.out).1)
      obtain⟨y0,hy0⟩:∃y,(Co.folds l)[0]? =some y:=⟨_,List.getElem?_eq_getElem (by rw [Co.zAB,HN.out];omega)⟩
      obtain⟨b0,o0,ay0,he0,_,hcy0,hby0,hsy0⟩:=HSL.out.get hy0
      cases he0
      obtain⟨s0_0,s0_1,s0_2,s0_3,s0_4,s0_5⟩:=hcy0
      obtain⟨pb0,cb0,rfl,_⟩:=hsy0.form
      obtain⟨NB0,hNB0⟩:∃q,y0.args.length=q:=⟨_,rfl⟩
      have HK0:=zh (zC6 y0 (.slice pb0 y0.args.length cb0) w3 hby0 hsy0 (h8_p HVF.out hy0))
      have HCB0:Hid (∀v,Co.const y0=some v→ -2305843009213693951≤v∧v≤2305843009213693951):=zh (fun v h=>Co.zBP (zG HVF.out hy0) h)
      have HE0:=zh hy0
      rw [hNB0] at HK0 s0_5
      unfold exprV at HK0
      simp only [Nat.zero_mul,Nat.add_zero] at s0_0 s0_1 s0_2 s0_3 s0_4 s0_5
      clear hy0 hby0 hsy0 hNB0
      have q1:=cells6 (C3.out.b 1 rfl)
      go_wp2_with fail
      clear q1
      refine HK0.out.mono ?_
      rintro e w8 ⟨rfl,hb⟩
      have C9:=zh (C3.out.below hb)
      clear C3
      clear hb
      clear s0_0 s0_1 s0_2 s0_3 s0_4 s0_5 HK0
      have HSL8:=zh (C9.out.rd 0 rfl)
      clear HSL
      have HSL:=HSL8
      clear HSL8
      cases hcn0:Co.const y0 with
      |none=>
       have HCN0:=zh hcn0
       clear hcn0 HCB0
       simp only [Option.getD_none,Option.isSome_none]
       have hxe:X= .mk 9 o i nm at_ (Co.folds l):=by
        rw [←HX.out]
        unfold Co.top
        dsimp only
        rw [if_pos (by omega)]
        have hh0:((Co.folds l).head?.bind Co.const:Option Int)=Co.const y0:=by rw [List.head?_eq_getElem?,HE0.out];rfl
        rw [hh0,HCN0.out]
        try dsimp only
       subst hxe
       have q1:=cells6 (C9.out.b 1 rfl)
       have q0:=cells6 (C9.out.b 0 rfl)
       go_wp2_with fail
       exact My.retE C9.out (a:= .slice (some ⟨b0,o0,none⟩) 1 cq) (x:= .mk 9 o i nm at_ (Co.folds l)) 0 rfl Tryz.results41 rfl rfl HBD.out
      |some v0=>
       have HCN0:=zh hcn0
       have hvb0:=HCB0.out _ hcn0
       clear hcn0 HCB0
       simp only [Option.getD_some,Option.isSome_some]
       have hxe:X=Co.repl (.mk 9 o i nm at_ (Co.folds l)) (Co.bit (v0 == 0)):=by
        rw [←HX.out]
        unfold Co.top
        dsimp only
        rw [if_pos (by omega)]
        have hh0:((Co.folds l).head?.bind Co.const:Option Int)=Co.const y0:=by rw [List.head?_eq_getElem?,HE0.out];rfl
        rw [hh0,HCN0.out]
        try dsimp only
        rw [if_neg (by decide),if_pos rfl]
       have HXE:=zh hxe
       clear hxe
       have HQN:Hid (Q62p (Co.bit (v0 == 0))):=zh (zLA _)
       have q1:=cells6 (C9.out.b 1 rfl)
       go_upto_region 17 with fail
       clear q1
       obtain⟨w11,HW,C11⟩:=C9.out.drewE
       refine wp_region_held_drew (S:=fun _=>True) (by kernel_rfl) trivial (fun _=>?_)
       rw [←HW.out]
       clear HW C9
       refine rU 1 (some 66) ?_
       refine rU 2 (some 67) ?_
       refine rR2 0 (some 65) 3 (some 68) (fun K hK=>?_) (fun K hK=>?_)
       ·have q1:=cells6 (C11.out.b 1 rfl)
        go_simp
        refine hK.out _ _ trivial (fun _=>?_)
        clear hK K
        try simp only [Act.put,q0,q1,q2]
        clear q1
        refine rR1 3 (some 68) (fun K hK=>?_)
        go_simp
        refine(zBF (v0 == 0) w11).mono ?_
        rintro e w' ⟨rfl,hww⟩
        rw [hww]
        clear hww w'
        go_wp2_with fail
        refine hK.out _ _ trivial (fun _=>?_)
        clear hK K
        try simp only [Act.put,q0,q1,q2]
        refine rR1 4 (some 69) (fun K hK=>?_)
        go_simp
        refine(zAW (.mk 9 o i nm at_ (Co.folds l)) (Co.bit (v0 == 0)) (.slice (some ⟨b0,o0,none⟩) 1 cq) w11 HQN.out ⟨_,_,_,rfl⟩).mono ?_
        rintro e w12 hp9
        obtain⟨a9,rfl,C12⟩:=My.repl C11.out hp9
        clear hp9 C11
        obtain⟨p9,c9,rfl,_⟩:=(C12.out.rd 0 rfl).form
        have HBR:=zh (zBG HBD.out HQN.out)
        rw [←HXE.out] at C12 HBR ⊢
        obtain⟨YN,hYN⟩:∃q,X.args.length=q:=⟨_,rfl⟩
        rw [hYN] at C12 ⊢
        clear hYN
        unfold exprV
        go_wp2_with fail
        refine hK.out _ _ trivial (fun _=>?_)
        clear hK K
        try simp only [Act.put,q0,q1,q2]
        refine rR1 5 none (fun K hK=>?_)
        have q0:=cells6 (C12.out.b 0 rfl)
        go_simp
        refine hK.out _ _ trivial (fun _=>?_)
        clear hK K
        try simp only [Act.put,q0,q1,q2]
        refine wpAnyH_done (by kernel_rfl) ?_ _
        go_wp2_with fail
        exact My.retE C12.out (x:=X) (a:= .slice p9 YN c9) 0 rfl Tryz.results41 rfl rfl HBR.out
       ·go_simp
        refine(zBF (v0 == 0) w11).mono ?_
        rintro e w' ⟨rfl,hww⟩
        rw [hww]
        clear hww w'
        go_wp2_with fail
        refine hK.out _ _ trivial (fun _=>?_)
        clear hK K
        try simp only [Act.put,q0,q1,q2]
        refine rR1 0 (some 65) (fun K hK=>?_)
        have q1:=cells6 (C11.out.b 1 rfl)
        go_simp
        refine hK.out _ _ trivial (fun _=>?_)
        clear hK K
        try simp only [Act.put,q0,q1,q2]
        clear q1
        refine rR1 4 (some 69) (fun K hK=>?_)
        go_simp
        refine(zAW (.mk 9 o i nm at_ (Co.folds l)) (Co.bit (v0 == 0)) (.slice (some ⟨b0,o0,none⟩) 1 cq) w11 HQN.out ⟨_,_,_,rfl⟩).mono ?_
        rintro e w13 hp9
        obtain⟨a9,rfl,C13⟩:=My.repl C11.out hp9
        clear hp9 C11
        obtain⟨p9,c9,rfl,_⟩:=(C13.out.rd 0 rfl).form
        have HBR:=zh (zBG HBD.out HQN.out)
        rw [←HXE.out] at C13 HBR ⊢
        obtain⟨YN,hYN⟩:∃q,X.args.length=q:=⟨_,rfl⟩
        rw [hYN] at C13 ⊢
        clear hYN
        unfold exprV
        go_wp2_with fail
        refine hK.out _ _ trivial (fun _=>?_)
        clear hK K
        try simp only [Act.put,q0,q1,q2]
        refine rR1 5 none (fun K hK=>?_)
        have q0:=cells6 (C13.out.b 0 rfl)
        go_simp
        refine hK.out _ _ trivial (fun _=>?_)
        clear hK K
        try simp only [Act.put,q0,q1,q2]
        refine wpAnyH_done (by kernel_rfl) ?_ _
        go_wp2_with fail
        exact My.retE C13.out (x:=X) (a:= .slice p9 YN c9) 0 rfl Tryz.results41 rfl rfl HBR.out
     ·subst h10
      have hN2:j=2:=by
       have h9:=(Co.zF HV.out).2
       unfold Tr.okE at h9
       simp at h9
       have h7:=HN.out
       omega
      subst hN2
      have ho:=(Co.zI0 HV.out).2
      have HVF:Hid (Tr.validEs (Co.folds l)=true):=zh (Co.zAA l (Co.zF HV.out).1)
      obtain⟨y0,hy0⟩:∃y,(Co.folds l)[0]? =some y:=⟨_,List.getElem?_eq_getElem (by rw [Co.zAB,HN.out];omega)⟩
      obtain⟨b0,o0,ay0,he0,_,hcy0,hby0,hsy0⟩:=HSL.out.get hy0
      cases he0
      obtain⟨s0_0,s0_1,s0_2,s0_3,s0_4,s0_5⟩:=hcy0
      obtain⟨pb0,cb0,rfl,_⟩:=hsy0.form
      obtain⟨NB0,hNB0⟩:∃q,y0.args.length=q:=⟨_,rfl⟩
      have HK0:=zh (zC6 y0 (.slice pb0 y0.args.length cb0) w3 hby0 hsy0 (h8_p HVF.out hy0))
      have HCB0:Hid (∀v,Co.const y0=some v→ -2305843009213693951≤v∧v≤2305843009213693951):=zh (fun v h=>Co.zBP (zG HVF.out hy0) h)
      have HE0:=zh hy0
      rw [hNB0] at HK0 s0_5
      unfold exprV at HK0
      simp only [Nat.zero_mul,Nat.add_zero] at s0_0 s0_1 s0_2 s0_3 s0_4 s0_5
      clear hy0 hby0 hsy0 hNB0
      have q1:=cells6 (C3.out.b 1 rfl)
      go_wp2_with fail
      clear q1
      refine HK0.out.mono ?_
      rintro e w14 ⟨rfl,hb⟩
      have C15:=zh (C3.out.below hb)
      clear C3
      clear hb
      clear s0_0 s0_1 s0_2 s0_3 s0_4 s0_5 HK0
      have HSL14:=zh (C15.out.rd 0 rfl)
      clear HSL
      have HSL:=HSL14
      clear HSL14
      cases hcn0:Co.const y0 with
      |none=>
       have HCN0:=zh hcn0
       clear hcn0 HCB0
       simp only [Option.getD_none,Option.isSome_none]
       have hxe:X= .mk 10 o i nm at_ (Co.folds l):=by
        rw [←HX.out]
        unfold Co.top
        dsimp only
        rw [if_pos (by omega)]
        have hh0:((Co.folds l).head?.bind Co.const:Option Int)=Co.const y0:=by rw [List.head?_eq_getElem?,HE0.out];rfl
        rw [hh0,HCN0.out]
        try dsimp only
       subst hxe
       have q1:=cells6 (C15.out.b 1 rfl)
       have q0:=cells6 (C15.out.b 0 rfl)
       go_wp2_with fail
       exact My.retE C15.out (a:= .slice (some ⟨b0,o0,none⟩) 2 cq) (x:= .mk 10 o i nm at_ (Co.folds l)) 0 rfl Tryz.results41 rfl rfl HBD.out
      |some v0=>
       have HCN0:=zh hcn0
       have hvb0:=HCB0.out _ hcn0
       clear hcn0 HCB0
       simp only [Option.getD_some,Option.isSome_some]
       obtain⟨y1,hy1⟩:∃y,(Co.folds l)[1]? =some y:=⟨_,List.getElem?_eq_getElem (by rw [Co.zAB,HN.out];omega)⟩
       obtain⟨b1,o1,ay1,he1,_,hcy1,hby1,hsy1⟩:=HSL.out.get hy1
       cases he1
       obtain⟨s1_0,s1_1,s1_2,s1_3,s1_4,s1_5⟩:=hcy1
       obtain⟨pb1,cb1,rfl,_⟩:=hsy1.form
       obtain⟨NB1,hNB1⟩:∃q,y1.args.length=q:=⟨_,rfl⟩
       have HK1:=zh (zC6 y1 (.slice pb1 y1.args.length cb1) w14 hby1 hsy1 (h8_p HVF.out hy1))
       have HCB1:Hid (∀v,Co.const y1=some v→ -2305843009213693951≤v∧v≤2305843009213693951):=zh (fun v h=>Co.zBP (zG HVF.out hy1) h)
       have HE1:=zh hy1
       rw [hNB1] at HK1 s1_5
       unfold exprV at HK1
       simp only [Nat.one_mul] at s1_0 s1_1 s1_2 s1_3 s1_4 s1_5
       clear hy1 hby1 hsy1 hNB1
       have q1:=cells6 (C15.out.b 1 rfl)
       go_wp2_with fail
       clear q1
       refine HK1.out.mono ?_
       rintro e w16 ⟨rfl,hb⟩
       have C17:=zh (C15.out.below hb)
       clear C15
       clear hb
       clear s1_0 s1_1 s1_2 s1_3 s1_4 s1_5 HK1
       have HSL16:=zh (C17.out.rd 0 rfl)
       clear HSL
       have HSL:=HSL16
       clear HSL16
       cases hcn1:Co.const y1 with
       |none=>
        have HCN1:=zh hcn1
        clear hcn1 HCB1
        simp only [Option.getD_none,Option.isSome_none]
        by_cases h11:o=11
        ·subst h11
         by_cases hv0:v0=0
         ·subst hv0
          have hxe:X=Co.repl (.mk 10 11 i nm at_ (Co.folds l)) (0):=by
           rw [←HX.out]
           unfold Co.top
           dsimp only
           rw [if_pos (by omega)]
           have hh0:((Co.folds l).head?.bind Co.const:Option Int)=Co.const y0:=by rw [List.head?_eq_getElem?,HE0.out];rfl
           rw [hh0,HCN0.out]
           try dsimp only
           rw [if_neg (by decide),if_neg (by decide)]
           rw [if_pos ⟨rfl,rfl⟩]
          have HXE:=zh hxe
          clear hxe
          have HQN:Hid (Q62p (0)):=zh ⟨by decide,by decide⟩
          have q1:=cells6 (C17.out.b 1 rfl)
          have q0:=cells6 (C17.out.b 0 rfl)
          go_wp2_with fail
          refine(zAW (.mk 10 11 i nm at_ (Co.folds l)) (0) (.slice (some ⟨b0,o0,none⟩) 2 cq) w16 HQN.out ⟨_,_,_,rfl⟩).mono ?_
          rintro e w19 hp9
          obtain⟨a9,rfl,C19⟩:=My.repl C17.out hp9
          clear hp9 C17
          obtain⟨p9,c9,rfl,_⟩:=(C19.out.rd 0 rfl).form
          have HBR:=zh (zBG HBD.out HQN.out)
          rw [←HXE.out] at C19 HBR ⊢
          obtain⟨YN,hYN⟩:∃q,X.args.length=q:=⟨_,rfl⟩
          rw [hYN] at C19 ⊢
          clear hYN
          have q0:=cells6 (C19.out.b 0 rfl)
          unfold exprV
          go_wp2_with fail
          exact My.retE C19.out (x:=X) (a:= .slice p9 YN c9) 0 rfl Tryz.results41 rfl rfl HBR.out
         ·have hvb:(v0 == 0)=false:=beq_eq_false_iff_ne.2 hv0
          have hvn:(v0 != 0)=true:=bne_iff_ne.2 hv0
          have hxe:X= .mk 10 11 i nm at_ (Co.folds l):=by
           rw [←HX.out]
           unfold Co.top
           dsimp only
           rw [if_pos (by omega)]
           have hh0:((Co.folds l).head?.bind Co.const:Option Int)=Co.const y0:=by rw [List.head?_eq_getElem?,HE0.out];rfl
           rw [hh0,HCN0.out]
           try dsimp only
           rw [if_neg (by decide),if_neg (by decide)]
           rw [if_neg (by intro h;exact hv0 h.2),if_neg (by intro h;exact absurd h.1 (by decide))]
           have hh1:(((Co.folds l).drop 1).head?.bind Co.const:Option Int)=Co.const y1:=by rw [List.head?_eq_getElem?,List.getElem?_drop,HE1.out];rfl
           rw [hh1,HCN1.out]
           try dsimp only
          subst hxe
          have q1:=cells6 (C17.out.b 1 rfl)
          have q0:=cells6 (C17.out.b 0 rfl)
          go_wp2_with fail
          exact My.retE C17.out (a:= .slice (some ⟨b0,o0,none⟩) 2 cq) (x:= .mk 10 11 i nm at_ (Co.folds l)) 0 rfl Tryz.results41 rfl rfl HBD.out
        ·by_cases h12:o=12
         ·subst h12
          by_cases hv0:v0=0
          ·subst hv0
           have hxe:X= .mk 10 12 i nm at_ (Co.folds l):=by
            rw [←HX.out]
            unfold Co.top
            dsimp only
            rw [if_pos (by omega)]
            have hh0:((Co.folds l).head?.bind Co.const:Option Int)=Co.const y0:=by rw [List.head?_eq_getElem?,HE0.out];rfl
            rw [hh0,HCN0.out]
            try dsimp only
            rw [if_neg (by decide),if_neg (by decide)]
            rw [if_neg (by intro h;exact absurd h.1 (by decide)),if_neg (by intro h;exact h.2 rfl)]
            have hh1:(((Co.folds l).drop 1).head?.bind Co.const:Option Int)=Co.const y1:=by rw [List.head?_eq_getElem?,List.getElem?_drop,HE1.out];rfl
            rw [hh1,HCN1.out]
            try dsimp only
           subst hxe
           have q1:=cells6 (C17.out.b 1 rfl)
           have q0:=cells6 (C17.out.b 0 rfl)
           go_wp2_with fail
           exact My.retE C17.out (a:= .slice (some ⟨b0,o0,none⟩) 2 cq) (x:= .mk 10 12 i nm at_ (Co.folds l)) 0 rfl Tryz.results41 rfl rfl HBD.out
          ·have hvb:(v0 == 0)=false:=beq_eq_false_iff_ne.2 hv0
           have hvn:(v0 != 0)=true:=bne_iff_ne.2 hv0
           have hxe:X=Co.repl (.mk 10 12 i nm at_ (Co.folds l)) (1):=by
            rw [←HX.out]
            unfold Co.top
            dsimp only
            rw [if_pos (by omega)]
            have hh0:((Co.folds l).head?.bind Co.const:Option Int)=Co.const y0:=by rw [List.head?_eq_getElem?,HE0.out];rfl
            rw [hh0,HCN0.out]
            try dsimp only
            rw [if_neg (by decide),if_neg (by decide)]
            rw [if_neg (by intro h;exact absurd h.1 (by decide)),if_pos ⟨rfl,hv0⟩]
           have HXE:=zh hxe
           clear hxe
           have HQN:Hid (Q62p (1)):=zh ⟨by decide,by decide⟩
           have q1:=cells6 (C17.out.b 1 rfl)
           have q0:=cells6 (C17.out.b 0 rfl)
           go_wp2_with fail
           refine(zAW (.mk 10 12 i nm at_ (Co.folds l)) (1) (.slice (some ⟨b0,o0,none⟩) 2 cq) w16 HQN.out ⟨_,_,_,rfl⟩).mono ?_
           rintro e w21 hp9
           obtain⟨a9,rfl,C21⟩:=My.repl C17.out hp9
           clear hp9 C17
           obtain⟨p9,c9,rfl,_⟩:=(C21.out.rd 0 rfl).form
           have HBR:=zh (zBG HBD.out HQN.out)
           rw [←HXE.out] at C21 HBR ⊢
           obtain⟨YN,hYN⟩:∃q,X.args.length=q:=⟨_,rfl⟩
           rw [hYN] at C21 ⊢
           clear hYN
           have q0:=cells6 (C21.out.b 0 rfl)
           unfold exprV
           go_wp2_with fail
           exact My.retE C21.out (x:=X) (a:= .slice p9 YN c9) 0 rfl Tryz.results41 rfl rfl HBR.out
         ·have h11b:(o == 11)=false:=beq_eq_false_iff_ne.2 h11
          have h12b:(o == 12)=false:=beq_eq_false_iff_ne.2 h12
          have hxe:X= .mk 10 o i nm at_ (Co.folds l):=by
           rw [←HX.out]
           unfold Co.top
           dsimp only
           rw [if_pos (by omega)]
           have hh0:((Co.folds l).head?.bind Co.const:Option Int)=Co.const y0:=by rw [List.head?_eq_getElem?,HE0.out];rfl
           rw [hh0,HCN0.out]
           try dsimp only
           rw [if_neg (by decide),if_neg (by decide)]
           rw [if_neg (by intro h;exact h11 h.1),if_neg (by intro h;exact h12 h.1)]
           have hh1:(((Co.folds l).drop 1).head?.bind Co.const:Option Int)=Co.const y1:=by rw [List.head?_eq_getElem?,List.getElem?_drop,HE1.out];rfl
           rw [hh1,HCN1.out]
           try dsimp only
          subst hxe
          have q1:=cells6 (C17.out.b 1 rfl)
          have q0:=cells6 (C17.out.b 0 rfl)
          go_wp2_with fail
          exact My.retE C17.out (a:= .slice (some ⟨b0,o0,none⟩) 2 cq) (x:= .mk 10 o i nm at_ (Co.folds l)) 0 rfl Tryz.results41 rfl rfl HBD.out
       |some v1=>
        have HCN1:=zh hcn1
        have hvb1:=HCB1.out _ hcn1
        clear hcn1 HCB1
        simp only [Option.getD_some,Option.isSome_some]
        by_cases h11:o=11
        ·subst h11
         by_cases hv0:v0=0
         ·subst hv0
          have hxe:X=Co.repl (.mk 10 11 i nm at_ (Co.folds l)) (0):=by
           rw [←HX.out]
           unfold Co.top
           dsimp only
           rw [if_pos (by omega)]
           have hh0:((Co.folds l).head?.bind Co.const:Option Int)=Co.const y0:=by rw [List.head?_eq_getElem?,HE0.out];rfl
           rw [hh0,HCN0.out]
           try dsimp only
           rw [if_neg (by decide),if_neg (by decide)]
           rw [if_pos ⟨rfl,rfl⟩]
          have HXE:=zh hxe
          clear hxe
          have HQN:Hid (Q62p (0)):=zh ⟨by decide,by decide⟩
          have q1:=cells6 (C17.out.b 1 rfl)
          have q0:=cells6 (C17.out.b 0 rfl)
          go_wp2_with fail
          refine(zAW (.mk 10 11 i nm at_ (Co.folds l)) (0) (.slice (some ⟨b0,o0,none⟩) 2 cq) w16 HQN.out ⟨_,_,_,rfl⟩).mono ?_
          rintro e w23 hp9
          obtain⟨a9,rfl,C23⟩:=My.repl C17.out hp9
          clear hp9 C17
          obtain⟨p9,c9,rfl,_⟩:=(C23.out.rd 0 rfl).form
          have HBR:=zh (zBG HBD.out HQN.out)
          rw [←HXE.out] at C23 HBR ⊢
          obtain⟨YN,hYN⟩:∃q,X.args.length=q:=⟨_,rfl⟩
          rw [hYN] at C23 ⊢
          clear hYN
          have q0:=cells6 (C23.out.b 0 rfl)
          unfold exprV
          go_wp2_with fail
          exact My.retE C23.out (x:=X) (a:= .slice p9 YN c9) 0 rfl Tryz.results41 rfl rfl HBR.out
         ·have hvb:(v0 == 0)=false:=beq_eq_false_iff_ne.2 hv0
          have hvn:(v0 != 0)=true:=bne_iff_ne.2 hv0
          have HI1:Hid (¬((11:Int)=11∧v0=0)):=zh (by omega)
          have HI2:Hid (¬((11:Int)=12∧v0≠0)):=zh (by omega)
          have hxe:X=Co.repl (.mk 10 11 i nm at_ (Co.folds l)) (Co.bit (v1 != 0)):=by
           rw [←HX.out]
           unfold Co.top
           dsimp only
           rw [if_pos (by omega)]
           have hh0:((Co.folds l).head?.bind Co.const:Option Int)=Co.const y0:=by rw [List.head?_eq_getElem?,HE0.out];rfl
           rw [hh0,HCN0.out]
           try dsimp only
           rw [if_neg (by decide),if_neg (by decide)]
           rw [if_neg HI1.out,if_neg HI2.out]
           have hh1:(((Co.folds l).drop 1).head?.bind Co.const:Option Int)=Co.const y1:=by rw [List.head?_eq_getElem?,List.getElem?_drop,HE1.out];rfl
           rw [hh1,HCN1.out]
           try dsimp only
           rw [if_pos (by decide)]
          have HXE:=zh hxe
          clear hxe
          have HQN:Hid (Q62p (Co.bit (v1 != 0))):=zh (zLA _)
          have q1:=cells6 (C17.out.b 1 rfl)
          go_upto_region 26 with fail
          clear q1
          obtain⟨w25,HW,C25⟩:=C17.out.drewE
          refine wp_region_held_drew (S:=fun _=>True) (by kernel_rfl) trivial (fun _=>?_)
          rw [←HW.out]
          clear HW C17
          refine rU 1 (some 111) ?_
          refine rU 2 (some 112) ?_
          refine rR2 0 (some 110) 3 (some 113) (fun K hK=>?_) (fun K hK=>?_)
          ·have q1:=cells6 (C25.out.b 1 rfl)
           go_simp
           refine hK.out _ _ trivial (fun _=>?_)
           clear hK K
           try simp only [Act.put,q0,q1,q2]
           clear q1
           refine rR1 3 (some 113) (fun K hK=>?_)
           go_simp
           refine(zBF (v1 != 0) w25).mono ?_
           rintro e w' ⟨rfl,hww⟩
           rw [hww]
           clear hww w'
           go_wp2_with fail
           refine hK.out _ _ trivial (fun _=>?_)
           clear hK K
           try simp only [Act.put,q0,q1,q2]
           refine rR1 4 (some 114) (fun K hK=>?_)
           go_simp
           refine(zAW (.mk 10 11 i nm at_ (Co.folds l)) (Co.bit (v1 != 0)) (.slice (some ⟨b0,o0,none⟩) 2 cq) w25 HQN.out ⟨_,_,_,rfl⟩).mono ?_
           rintro e w26 hp9
           obtain⟨a9,rfl,C26⟩:=My.repl C25.out hp9
           clear hp9 C25
           obtain⟨p9,c9,rfl,_⟩:=(C26.out.rd 0 rfl).form
           have HBR:=zh (zBG HBD.out HQN.out)
           rw [←HXE.out] at C26 HBR ⊢
           obtain⟨YN,hYN⟩:∃q,X.args.length=q:=⟨_,rfl⟩
           rw [hYN] at C26 ⊢
           clear hYN
           unfold exprV
           go_wp2_with fail
           refine hK.out _ _ trivial (fun _=>?_)
           clear hK K
           try simp only [Act.put,q0,q1,q2]
           refine rR1 5 none (fun K hK=>?_)
           have q0:=cells6 (C26.out.b 0 rfl)
           go_simp
           refine hK.out _ _ trivial (fun _=>?_)
           clear hK K
           try simp only [Act.put,q0,q1,q2]
           refine wpAnyH_done (by kernel_rfl) ?_ _
           go_wp2_with fail
           exact My.retE C26.out (x:=X) (a:= .slice p9 YN c9) 0 rfl Tryz.results41 rfl rfl HBR.out
          ·go_simp
           refine(zBF (v1 != 0) w25).mono ?_
           rintro e w' ⟨rfl,hww⟩
           rw [hww]
           clear hww w'
           go_wp2_with fail
           refine hK.out _ _ trivial (fun _=>?_)
           clear hK K
           try simp only [Act.put,q0,q1,q2]
           refine rR1 0 (some 110) (fun K hK=>?_)
           have q1:=cells6 (C25.out.b 1 rfl)
           go_simp
           refine hK.out _ _ trivial (fun _=>?_)
           clear hK K
           try simp only [Act.put,q0,q1,q2]
           clear q1
           refine rR1 4 (some 114) (fun K hK=>?_)
           go_simp
           refine(zAW (.mk 10 11 i nm at_ (Co.folds l)) (Co.bit (v1 != 0)) (.slice (some ⟨b0,o0,none⟩) 2 cq) w25 HQN.out ⟨_,_,_,rfl⟩).mono ?_
           rintro e w27 hp9
           obtain⟨a9,rfl,C27⟩:=My.repl C25.out hp9
           clear hp9 C25
           obtain⟨p9,c9,rfl,_⟩:=(C27.out.rd 0 rfl).form
           have HBR:=zh (zBG HBD.out HQN.out)
           rw [←HXE.out] at C27 HBR ⊢
           obtain⟨YN,hYN⟩:∃q,X.args.length=q:=⟨_,rfl⟩
           rw [hYN] at C27 ⊢
           clear hYN
           unfold exprV
           go_wp2_with fail
           refine hK.out _ _ trivial (fun _=>?_)
           clear hK K
           try simp only [Act.put,q0,q1,q2]
           refine rR1 5 none (fun K hK=>?_)
           have q0:=cells6 (C27.out.b 0 rfl)
           go_simp
           refine hK.out _ _ trivial (fun _=>?_)
           clear hK K
           try simp only [Act.put,q0,q1,q2]
           refine wpAnyH_done (by kernel_rfl) ?_ _
           go_wp2_with fail
           exact My.retE C27.out (x:=X) (a:= .slice p9 YN c9) 0 rfl Tryz.results41 rfl rfl HBR.out
        ·by_cases h12:o=12
         ·subst h12
          by_cases hv0:v0=0
          ·subst hv0
           have HI1:Hid (¬((12:Int)=11∧(0:Int)=0)):=zh (by decide)
           have HI2:Hid (¬((12:Int)=12∧(0:Int)≠0)):=zh (by decide)
           have hxe:X=Co.repl (.mk 10 12 i nm at_ (Co.folds l)) (Co.bit (v1 != 0)):=by
            rw [←HX.out]
            unfold Co.top
            dsimp only
            rw [if_pos (by omega)]
            have hh0:((Co.folds l).head?.bind Co.const:Option Int)=Co.const y0:=by rw [List.head?_eq_getElem?,HE0.out];rfl
            rw [hh0,HCN0.out]
            try dsimp only
            rw [if_neg (by decide),if_neg (by decide)]
            rw [if_neg HI1.out,if_neg HI2.out]
            have hh1:(((Co.folds l).drop 1).head?.bind Co.const:Option Int)=Co.const y1:=by rw [List.head?_eq_getElem?,List.getElem?_drop,HE1.out];rfl
            rw [hh1,HCN1.out]
            try dsimp only
            rw [if_pos (by decide)]
           have HXE:=zh hxe
           clear hxe
           have HQN:Hid (Q62p (Co.bit (v1 != 0))):=zh (zLA _)
           have q1:=cells6 (C17.out.b 1 rfl)
           go_upto_region 26 with fail
           clear q1
           obtain⟨w29,HW,C29⟩:=C17.out.drewE
           refine wp_region_held_drew (S:=fun _=>True) (by kernel_rfl) trivial (fun _=>?_)
           rw [←HW.out]
           clear HW C17
           refine rU 1 (some 111) ?_
           refine rU 2 (some 112) ?_
           refine rR2 0 (some 110) 3 (some 113) (fun K hK=>?_) (fun K hK=>?_)
           ·have q1:=cells6 (C29.out.b 1 rfl)
            go_simp
            refine hK.out _ _ trivial (fun _=>?_)
            clear hK K
            try simp only [Act.put,q0,q1,q2]
            clear q1
            refine rR1 3 (some 113) (fun K hK=>?_)
            go_simp
            refine(zBF (v1 != 0) w29).mono ?_
            rintro e w' ⟨rfl,hww⟩
            rw [hww]
            clear hww w'
            go_wp2_with fail
            refine hK.out _ _ trivial (fun _=>?_)
            clear hK K
            try simp only [Act.put,q0,q1,q2]
            refine rR1 4 (some 114) (fun K hK=>?_)
            go_simp
            refine(zAW (.mk 10 12 i nm at_ (Co.folds l)) (Co.bit (v1 != 0)) (.slice (some ⟨b0,o0,none⟩) 2 cq) w29 HQN.out ⟨_,_,_,rfl⟩).mono ?_
            rintro e w30 hp9
            obtain⟨a9,rfl,C30⟩:=My.repl C29.out hp9
            clear hp9 C29
            obtain⟨p9,c9,rfl,_⟩:=(C30.out.rd 0 rfl).form
            have HBR:=zh (zBG HBD.out HQN.out)
            rw [←HXE.out] at C30 HBR ⊢
            obtain⟨YN,hYN⟩:∃q,X.args.length=q:=⟨_,rfl⟩
            rw [hYN] at C30 ⊢
            clear hYN
            unfold exprV
            go_wp2_with fail
            refine hK.out _ _ trivial (fun _=>?_)
            clear hK K
            try simp only [Act.put,q0,q1,q2]
            refine rR1 5 none (fun K hK=>?_)
            have q0:=cells6 (C30.out.b 0 rfl)
            go_simp
            refine hK.out _ _ trivial (fun _=>?_)
            clear hK K
            try simp only [Act.put,q0,q1,q2]
            refine wpAnyH_done (by kernel_rfl) ?_ _
            go_wp2_with fail
            exact My.retE C30.out (x:=X) (a:= .slice p9 YN c9) 0 rfl Tryz.results41 rfl rfl HBR.out
           ·go_simp
            refine(zBF (v1 != 0) w29).mono ?_
            rintro e w' ⟨rfl,hww⟩
            rw [hww]
            clear hww w'
            go_wp2_with fail
            refine hK.out _ _ trivial (fun _=>?_)
            clear hK K
            try simp only [Act.put,q0,q1,q2]
            refine rR1 0 (some 110) (fun K hK=>?_)
            have q1:=cells6 (C29.out.b 1 rfl)
            go_simp
            refine hK.out _ _ trivial (fun _=>?_)
            clear hK K
            try simp only [Act.put,q0,q1,q2]
            clear q1
            refine rR1 4 (some 114) (fun K hK=>?_)
            go_simp
            refine(zAW (.mk 10 12 i nm at_ (Co.folds l)) (Co.bit (v1 != 0)) (.slice (some ⟨b0,o0,none⟩) 2 cq) w29 HQN.out ⟨_,_,_,rfl⟩).mono ?_
            rintro e w31 hp9
            obtain⟨a9,rfl,C31⟩:=My.repl C29.out hp9
            clear hp9 C29
            obtain⟨p9,c9,rfl,_⟩:=(C31.out.rd 0 rfl).form
            have HBR:=zh (zBG HBD.out HQN.out)
            rw [←HXE.out] at C31 HBR ⊢
            obtain⟨YN,hYN⟩:∃q,X.args.length=q:=⟨_,rfl⟩
            rw [hYN] at C31 ⊢
            clear hYN
            unfold exprV
            go_wp2_with fail
            refine hK.out _ _ trivial (fun _=>?_)
            clear hK K
            try simp only [Act.put,q0,q1,q2]
            refine rR1 5 none (fun K hK=>?_)
            have q0:=cells6 (C31.out.b 0 rfl)
            go_simp
            refine hK.out _ _ trivial (fun _=>?_)
            clear hK K
            try simp only [Act.put,q0,q1,q2]
            refine wpAnyH_done (by kernel_rfl) ?_ _
            go_wp2_with fail
            exact My.retE C31.out (x:=X) (a:= .slice p9 YN c9) 0 rfl Tryz.results41 rfl rfl HBR.out
          ·have hvb:(v0 == 0)=false:=beq_eq_false_iff_ne.2 hv0
           have hvn:(v0 != 0)=true:=bne_iff_ne.2 hv0
           have hxe:X=Co.repl (.mk 10 12 i nm at_ (Co.folds l)) (1):=by
            rw [←HX.out]
            unfold Co.top
            dsimp only
            rw [if_pos (by omega)]
            have hh0:((Co.folds l).head?.bind Co.const:Option Int)=Co.const y0:=by rw [List.head?_eq_getElem?,HE0.out];rfl
            rw [hh0,HCN0.out]
            try dsimp only
            rw [if_neg (by decide),if_neg (by decide)]
            rw [if_neg (by intro h;exact absurd h.1 (by decide)),if_pos ⟨rfl,hv0⟩]
           have HXE:=zh hxe
           clear hxe
           have HQN:Hid (Q62p (1)):=zh ⟨by decide,by decide⟩
           have q1:=cells6 (C17.out.b 1 rfl)
           have q0:=cells6 (C17.out.b 0 rfl)
           go_wp2_with fail
           refine(zAW (.mk 10 12 i nm at_ (Co.folds l)) (1) (.slice (some ⟨b0,o0,none⟩) 2 cq) w16 HQN.out ⟨_,_,_,rfl⟩).mono ?_
           rintro e w33 hp9
           obtain⟨a9,rfl,C33⟩:=My.repl C17.out hp9
           clear hp9 C17
           obtain⟨p9,c9,rfl,_⟩:=(C33.out.rd 0 rfl).form
           have HBR:=zh (zBG HBD.out HQN.out)
           rw [←HXE.out] at C33 HBR ⊢
           obtain⟨YN,hYN⟩:∃q,X.args.length=q:=⟨_,rfl⟩
           rw [hYN] at C33 ⊢
           clear hYN
           have q0:=cells6 (C33.out.b 0 rfl)
           unfold exprV
           go_wp2_with fail
           exact My.retE C33.out (x:=X) (a:= .slice p9 YN c9) 0 rfl Tryz.results41 rfl rfl HBR.out
         ·have h11b:(o == 11)=false:=beq_eq_false_iff_ne.2 h11
          have h12b:(o == 12)=false:=beq_eq_false_iff_ne.2 h12
          have H1112:=zh (And.intro h11 h12)
          have HKC:=zh (zLT o v0 v1 ho.1 (by omega) ⟨by omega,by omega⟩ hvb0.1 ⟨by omega,by omega⟩ w16)
          have q1:=cells6 (C17.out.b 1 rfl)
          go_wp2_with fail
          refine HKC.out.mono ?_
          rintro e w34 ⟨rfl,hb⟩
          have C35:=zh (C17.out.below hb)
          clear C17
          clear hb HKC q1
          have HCQ:Hid (∀n,Co.calcO o v0 v1=some n→ -2305843009213693952≤n∧n≤2305843009213693951):=zh (fun n h=>Co.zIZ hvb0 h)
          cases hca:Co.calcO o v0 v1 with
          |none=>
           have hcalc:=zh hca
           clear hca HCQ
           simp only [Option.getD_none,Option.isSome_none]
           have hxe:X= .mk 10 o i nm at_ (Co.folds l):=by
            rw [←HX.out]
            unfold Co.top
            dsimp only
            rw [if_pos (by omega)]
            have hh0:((Co.folds l).head?.bind Co.const:Option Int)=Co.const y0:=by rw [List.head?_eq_getElem?,HE0.out];rfl
            rw [hh0,HCN0.out]
            try dsimp only
            rw [if_neg (by decide),if_neg (by decide)]
            rw [if_neg (by intro h;exact H1112.out.1 h.1),if_neg (by intro h;exact H1112.out.2 h.1)]
            have hh1:(((Co.folds l).drop 1).head?.bind Co.const:Option Int)=Co.const y1:=by rw [List.head?_eq_getElem?,List.getElem?_drop,HE1.out];rfl
            rw [hh1,HCN1.out]
            try dsimp only
            rw [if_neg (by intro h;rcases h with h|h;exact H1112.out.1 h;exact H1112.out.2 h),hcalc.out]
           subst hxe
           have q1:=cells6 (C35.out.b 1 rfl)
           have q0:=cells6 (C35.out.b 0 rfl)
           go_wp2_with fail
           exact My.retE C35.out (a:= .slice (some ⟨b0,o0,none⟩) 2 cq) (x:= .mk 10 o i nm at_ (Co.folds l)) 0 rfl Tryz.results41 rfl rfl HBD.out
          |some n=>
           have hcalc:=zh hca
           have hnb:=HCQ.out _ hca
           clear hca HCQ
           simp only [Option.getD_some,Option.isSome_some]
           have hxe:X=Co.repl (.mk 10 o i nm at_ (Co.folds l)) (n):=by
            rw [←HX.out]
            unfold Co.top
            dsimp only
            rw [if_pos (by omega)]
            have hh0:((Co.folds l).head?.bind Co.const:Option Int)=Co.const y0:=by rw [List.head?_eq_getElem?,HE0.out];rfl
            rw [hh0,HCN0.out]
            try dsimp only
            rw [if_neg (by decide),if_neg (by decide)]
            rw [if_neg (by intro h;exact H1112.out.1 h.1),if_neg (by intro h;exact H1112.out.2 h.1)]
            have hh1:(((Co.folds l).drop 1).head?.bind Co.const:Option Int)=Co.const y1:=by rw [List.head?_eq_getElem?,List.getElem?_drop,HE1.out];rfl
            rw [hh1,HCN1.out]
            try dsimp only
            rw [if_neg (by intro h;rcases h with h|h;exact H1112.out.1 h;exact H1112.out.2 h),hcalc.out]
           have HXE:=zh hxe
           clear hxe
           have HQN:Hid (Q62p (n)):=zh hnb
           have q1:=cells6 (C35.out.b 1 rfl)
           have q0:=cells6 (C35.out.b 0 rfl)
           go_wp2_with fail
           refine(zAW (.mk 10 o i nm at_ (Co.folds l)) (n) (.slice (some ⟨b0,o0,none⟩) 2 cq) w34 HQN.out ⟨_,_,_,rfl⟩).mono ?_
           rintro e w37 hp9
           obtain⟨a9,rfl,C37⟩:=My.repl C35.out hp9
           clear hp9 C35
           obtain⟨p9,c9,rfl,_⟩:=(C37.out.rd 0 rfl).form
           have HBR:=zh (zBG HBD.out HQN.out)
           rw [←HXE.out] at C37 HBR ⊢
           obtain⟨YN,hYN⟩:∃q,X.args.length=q:=⟨_,rfl⟩
           rw [hYN] at C37 ⊢
           clear hYN
           have q0:=cells6 (C37.out.b 0 rfl)
           unfold exprV
           go_wp2_with fail
           exact My.retE C37.out (x:=X) (a:= .slice p9 YN c9) 0 rfl Tryz.results41 rfl rfl HBR.out
    ·have h8:(k != 8)=true:=bne_iff_ne.2 (by omega)
     have h9:(k != 9)=true:=bne_iff_ne.2 (by omega)
     have h10:(k != 10)=true:=bne_iff_ne.2 (by omega)
     have hxe:X= .mk k o i nm at_ (Co.folds l):=by
      rw [←HX.out]
      unfold Co.top
      dsimp only
      rw [if_neg hk]
     subst hxe
     have q1:=cells6 (C3.out.b 1 rfl)
     have q0:=cells6 (C3.out.b 0 rfl)
     go_wp2_with fail
     exact My.retE C3.out (a:= .slice pq j cq) (x:= .mk k o i nm at_ (Co.folds l)) 0 rfl Tryz.results41 rfl rfl HBD.out
end Cw
end Go.Proofs.YtcnmfcgmnkncaaaGreatDoor
