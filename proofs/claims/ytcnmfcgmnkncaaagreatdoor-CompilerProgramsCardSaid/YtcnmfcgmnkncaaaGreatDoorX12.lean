/-
  CoFoldP, RegTake.
-/
import Derived.Test.YtcnmfcgmnkncaaaGreatDoorX11
import Derived.Deep.RegionHeld
set_option maxRecDepth 100000
set_option maxHeartbeats 40000000
open Go.Proofs.Tryz
namespace Go.Proofs.YtcnmfcgmnkncaaaGreatDoor
section
namespace Cw
open Go.RowKit Go.Maps Pw
theorem zAY {k o i:Int} {nm:BA} {a:Bool} {l:List Tr.E} {y:Tr.E} (hk:k=8\/k=9\/k=10) (hy:l[0]? =some y):Co.top (.mk k o i nm a l)=match Co.const y with
 |none=> .mk k o i nm a l
 |some v=>if k=8 then Co.repl (.mk k o i nm a l) (-v) else if k=9 then Co.repl (.mk k o i nm a l) (Co.bit (v == 0))
  else if o=11/\v=0 then Co.repl (.mk k o i nm a l) 0 else if o=12/\v≠0 then Co.repl (.mk k o i nm a l) 1
  else match ((l.drop 1).head?.bind Co.const:Option Int) with
   |none=> .mk k o i nm a l
   |some b=>if o=11\/o=12 then Co.repl (.mk k o i nm a l) (Co.bit (b != 0))
    else match Co.calcO o v b with
     |some n=>Co.repl (.mk k o i nm a l) n
     |none=> .mk k o i nm a l:=by
 have h:(l.head?.bind Co.const:Option Int)=Co.const y:=by rw [List.head?_eq_getElem?,hy];rfl
 unfold Co.top;dsimp only;rw [kD hk,h]
 rfl
theorem zB7 {l:List Tr.E} {y:Tr.E} (hy:l[1]? =some y):((l.drop 1).head?.bind Co.const:Option Int)=Co.const y:=by rw [List.head?_eq_getElem?,List.getElem?_drop,hy];rfl
theorem h8_p {l:List Tr.E} {j:Nat} {y:Tr.E} (hv:Tr.zT l=true) (h:l[j]? =some y):y.kind=8->y.args≠ []:=by
 intro hk e;have h2:=zH hv h;obtain⟨k,o,i,nm,at_,l⟩:=y;have e':l= []:=e;have hk':k=8:=hk;subst e' hk';have h3:=(Co.zN h2).2;unfold Tr.okE at h3;simp at h3
theorem h8_r {l:List Tr.E} {j:Nat} {y:Tr.E} (hv:Tr.zT l=true) (h:l[j]? =some y):y.kind=8->y.args.length=1:=by
 intro hk;have h2:=zH hv h;obtain⟨k,o,i,nm,at_,l⟩:=y;have hk':k=8:=hk;subst hk';have h3:=(Co.zN h2).2;unfold Tr.okE at h3;simp at h3;exact h3.2.1
theorem zN9:∀(d:Nat) (e:Tr.E) (a:Value) (w:World),e.deep<=d->Co.wE e<=900000->Tr.zE e=true->BdE e->SlE w a e.args->Calls prog 41 #[zK e a] w (FP (Co.fold e) w):=by
 intro d
 induction d with
 |zero=>intro e a w hd;have:=e.deep_pos;omega
 |succ d ih=>
  intro e a w hd hw hv hbd hS;obtain⟨i0,hi0,hz0,hz1,hz2⟩:=info_parts exprInfo;obtain⟨k,o,i,nm,at_,l⟩:=e;have hvl:=(Co.zN hv).1;have hS':SlE w a l:=hS;obtain⟨p,c,rfl,_⟩:=hS'.form;have hNw:l.length<=900000:=kG (zUG (e:= .mk k o i nm at_ l)) hw;obtain⟨N,hN⟩:∃q,l.length=q:=⟨_,rfl⟩;rw [hN] at hS' hNw;have HIH:Hid (∀(j:Nat) (x:Tr.E) (aa:Value) (W:World),l[j]? =some x->BdE x->SlE W aa x.args->Calls prog 41 #[zK x aa] W (FP (Co.fold x) W)):=zh (fun j x aa W hj hb hs=>ih x aa W (Tr.E.deep_args hd (e:= .mk k o i nm at_ l) hj) (kG (kG (zHF hj) (zP4 (e:= .mk k o i nm at_ l))) hw) (zH hvl hj) hb hs);have HBD:Hid (BdE (.mk k o i nm at_ (Co.zG l))):=zh ⟨hbd.kind,hbd.op,hbd.int,hbd.name⟩;have HBK:=zh hbd;have HS:=zh hS';have HN:=zh hN;have HV:=zh hv;obtain⟨X,hX⟩:∃q,Co.fold (.mk k o i nm at_ l)=q:=⟨_,rfl⟩;rw [hX];have HX:Hid (Co.top (.mk k o i nm at_ (Co.zG l))=X):=zh (by rw [<-hX,Co.fold]);unfold zK;simp only [Tr.E.kind,Tr.E.op,Tr.E.int,Tr.E.name,Tr.E.at_];rw [hN];have C0:=zh (My.start w);clear hd hw hv hbd hS hS' hvl hN hX ih;obtain⟨E,w1,HX1,HW1,hx1,C1⟩:=C0.boxE #[.int .i64 k,.int .i64 o,.int .i64 i,.string nm,.bool at_,.slice p N c] 37;obtain⟨R,w2,HX2,HW2,hx2,C2⟩:=C1.boxE #[.int .i64 0,.int .i64 0,.int .i64 0,.string ⟨#[]⟩,.bool false,.slice none 0 0] 37;have HY2:Hid (R=E+1):=zh (by rw [HX2.out,HW1.out,HX1.out];simp);go_in;go_upto_region 1 with fail;rw [<-HX1.out,<-HW1.out,<-HY2.out,<-HW2.out];clear HX1 HW1 C0 HY2 HX2 HW2 C1;have q1:=zF (C2.b 1 rfl);go_wp2_with (at_make;refine wpList_make_own w2 rfl _ _ 35 rfl w.heap.size 37 i0 (.agg #[.int .i64 0,.int .i64 0,.int .i64 0,.string ⟨#[]⟩,.bool false,.slice none 0 0]) 6 underlying35 hi0 hz0 hz1 .i64 .i64 _ N rfl rfl rfl (by rw [hz2];omega) (by unfold maxLen;omega) C2.le ?_;intro wm hown hgm;have HR0:Hid (RowOk zAK 6 37 zBD w.heap.size [R,E] wm (.slice (some ⟨w2.heap.size,0,none⟩) 0 N) []):=zh (RowOk.made hown (fun q hq=>(C2.lts hq).2.1));have CM:=zh (My.push C2 hgm (fun _ e=>by cases e));have q9:=zF (CM.b 1 rfl));clear hown hgm q9 q1
  go_loopg [3,19] N (fun gg s3 s19 wr=>∃j:Nat,s19= .int .i64 j/\j<=N/\gg=N -j/\∃tr:List ET,Hid (tr.map Prod.fst=Co.zG (l.take j))/\Hid (My w [(R,#[.int .i64 0,.int .i64 0,.int .i64 0,.string ⟨#[]⟩,.bool false,.slice none 0 0],37),(E,#[.int .i64 k,.int .i64 o,.int .i64 i,.string nm,.bool at_,.slice p N c],37)] [] wr)/\Hid (RowOk zAK 6 37 zBD w.heap.size [R,E] wr s3 tr))
  case atStart=>exact ⟨0,rfl,kO _,rfl,[],zh (by rw [List.take_zero,Co.zG];rfl),CM,HR0⟩
  case round=>
   clear CM HR0;obtain⟨j,rfl,hj,rfl,tr,HTR,CR,HST⟩:=hrel;have htl:tr.length=j:=by
    have h9:=congrArg List.length HTR;rw [List.length_map,Co.zAG,List.length_take,HN.out] at h9;omega
   obtain⟨pq,cq,rfl⟩:=own_form HST.own;rw [htl] at HST |-;have HTL:=zh htl;clear htl;by_cases hlt:j<N
   ·obtain⟨x,hx⟩:∃x,l[j]? =some x:=⟨_,kB (by rw [HN.out];exact hlt)⟩;obtain⟨b,oo,aa,rfl,hblt,hc,hbdx,hsl⟩:=(HS.keep (My.fin CR.out)).get hx;obtain⟨x0,x1,x2,x3,x4,x5⟩:=hc;obtain⟨pa0,ca0,rfl,_⟩:=hsl.form;obtain⟨AX,hAX⟩:∃N,x.args.length=N:=⟨_,rfl⟩;rw [hAX] at x5;have hbdf:=hbdx;have HFS:Hid (Co.zG (l.take (j+1))=Co.zG (l.take j)++ [Co.fold x]):=zh (zEJ hx);have b3j:(j:Int)<(N:Int):=(by omega);have b0j:(0:Int)<=(j:Int):=(by omega);obtain⟨w4,HW4⟩:∃q,Hid (q=wr.alloc (.cells #[.int .i64 x.kind,.int .i64 x.op,.int .i64 x.int,.string x.name,.bool x.at_,.slice pa0 AX ca0] 37)):=⟨_,zh rfl⟩;have hb4:Below wr.heap.size wr w4:=by rw [HW4.out];exact zD _ _
    have C4:=zh (CR.below hb4);have HST4:=zh (HST.below zR hb4);have KI:=zh (HIH j x (.slice pa0 AX ca0) w4 hx hbdx (by have:=hsl.keep hb4;rw [hAX] at this;exact this));unfold zK at KI;clear hsl hx hbdx hbdf hAX HST hb4 CR;go_wp2_with fail;rw [<-HW4.out];refine KI.mono ?_;rintro e w5 ⟨a',rfl,hbdy,hsy,hb5⟩;obtain⟨py,cy,rfl,_⟩:=hsy.form;obtain⟨y,hy⟩:∃q,Co.fold x=q:=⟨_,rfl⟩;rw [hy] at HFS hbdy hsy |-;obtain⟨AN,hAN⟩:∃N,y.args.length=N:=⟨_,rfl⟩;rw [hAN] at hsy |-;obtain⟨w6,HW6⟩:∃q,Hid (q=w5.alloc (.cells #[.int .i64 y.kind,.int .i64 y.op,.int .i64 y.int,.string y.name,.bool y.at_,.slice py AN cy] 37)):=⟨_,zh rfl⟩;obtain⟨h1,h2,h3,h4,h5,h6,h7⟩:=My.newE C4 HST4 hb5 hbdy hsy HW6;have C6:=zh h1;have HST6:=zh h2;have HSRC:=zh h3;have HNEW:=zh h4;have HONE:=zh h5;have HBS:=zh h6;have HLW:=zh h7;unfold zK;clear h1 h2 h3 h4 h5 h6 h7 hbdy hsy hb5 hAN hy KI C4 HST4 x0 x1 x2 x3 x4 x5 HW4;have HLEN:Hid (tr.length<=900000):=zh (by rw [HTL.out];omega);go_wp2_with (at_builtin;rw [<-HW6.out];refine zBK zBO zR rfl _ _ 35 rfl i0 (.agg #[.int .i64 0,.int .i64 0,.int .i64 0,.string ⟨#[]⟩,.bool false,.slice none 0 0]) 72 underlying35 hi0 hz0 hz1 hz2 rfl (by decide) _ _ rfl rfl HST6 HSRC HNEW HONE (by have:=HLEN.out;simp only [kI,kQ];unfold maxLen;omega) (by have:=HLEN.out;simp only [kI,kQ];omega) HBS ?_ HLW;intro v7 w7 hr7 hg7;obtain⟨p7,c7,rfl⟩:=own_form hr7.own;have C7:=zh (My.pushed C6 HST6 hg7);have HR7:=zh hr7;clear hr7 hg7);go_roundg (N -(j+1))
    case measure=>omega
    case rel=>exact ⟨j+1,by go_num,by omega,rfl,tr++ [(y,.slice py AN cy)],zh (by rw [List.map_append,HTR.out,HFS.out];rfl),C7,by rw [kN] at HR7;exact HR7⟩
   ·obtain rfl:j=N:=by omega
    have htr:=HTR.out;rw [kR (by rw [HN.out];exact kL _)] at htr;have hc9:=My.row CR HST;rw [htr] at hc9;have CZ:=zh hc9;clear htr hc9 CR HST HTR HIH HTL;have q1:=zF (CZ.b 1 rfl);obtain⟨w3,HW⟩:∃q,Hid (q=(wr.setCell ⟨E,5,none⟩ (.slice pq j cq))):=⟨_,zh rfl⟩;have C3:=zh ((CZ.set (W':=w3) 1 rfl (by rw [HW.out];exact zW wr E 5 (.slice pq j cq)) (by rw [HW.out];exact(heap_set (j:=5) (.slice pq j cq) (CZ.b 1 rfl)))).nrm (bs':= [(R,#[.int .i64 0,.int .i64 0,.int .i64 0,.string ⟨#[]⟩,.bool false,.slice none 0 0],37),(E,#[.int .i64 k,.int .i64 o,.int .i64 i,.string nm,.bool at_,.slice pq j cq],37)]) rfl);go_upto_region 8 with fail;rw [<-HW.out];clear HW CZ q1;by_cases hk:k=8\/k=9\/k=10
    ·rcases hk with h8|h9|h10
     ·subst h8;have hN1:j=1:=by
       have h9:=(Co.zN HV).2;unfold Tr.okE at h9;simp at h9;have h7:=HN.out;omega
      subst hN1;have HVF:Hid (Tr.zT (Co.zG l)=true):=zh (Co.zU l (Co.zN HV).1);obtain⟨y0,hy0⟩:∃y,(Co.zG l)[0]? =some y:=⟨_,kB (by rw [Co.zAG,HN.out];omega)⟩;obtain⟨b0,o0,ay0,he0,_,hcy0,hby0,hsy0⟩:=SlE.get (C3.rd 0 rfl) hy0;cases he0;obtain⟨s0_0,s0_1,s0_2,s0_3,s0_4,s0_5⟩:=hcy0;obtain⟨pb0,cb0,rfl,_⟩:=hsy0.form;obtain⟨NB0,hNB0⟩:∃q,y0.args.length=q:=⟨_,rfl⟩;have HK0:=zh (zD9 y0 (.slice pb0 y0.args.length cb0) w3 hby0 hsy0 (h8_p HVF hy0));have HCB0:Hid (∀v,Co.const y0=some v-> -2305843009213693951<=v/\v<=2305843009213693951):=zh (fun v h=>Co.zCI (zH HVF hy0) h);have HE0:=zh hy0;rw [hNB0] at HK0 s0_5;unfold zK at HK0;simp only [Nat.zero_mul,Nat.add_zero] at s0_0 s0_1 s0_2 s0_3 s0_4 s0_5;clear hy0 hby0 hsy0 hNB0;have q1:=zF (C3.b 1 rfl);go_wp2_with fail;clear q1;refine HK0.mono ?_;rintro e w4 ⟨rfl,hb⟩;have C5:=zh (C3.below hb);clear C3;clear hb;clear s0_0 s0_1 s0_2 s0_3 s0_4 s0_5 HK0;cases hcn0:Co.const y0 with
      |none=>
       have HCN0:=zh hcn0;clear hcn0 HCB0;simp only [Option.getD_none,Option.isSome_none];have hxe:X= .mk 8 o i nm at_ (Co.zG l):=by
        rw [<-HX.out];rw [zAY (by omega) HE0.out,HCN0.out]
        try dsimp only
       subst hxe;have q1:=zF (C5.b 1 rfl);have q0:=zF (C5.b 0 rfl);go_wp2;exact My.retE C5 (a:= .slice (some ⟨b0,o0,none⟩) 1 cq) (x:= .mk 8 o i nm at_ (Co.zG l)) 0 rfl results41 rfl rfl HBD
      |some v0=>
       have HCN0:=zh hcn0;have hvb0:=HCB0 _ hcn0;clear hcn0 HCB0;simp only [Option.getD_some,Option.isSome_some];have hxe:X=Co.repl (.mk 8 o i nm at_ (Co.zG l)) (-v0):=by
        rw [<-HX.out];rw [zAY (by omega) HE0.out,HCN0.out]
        try dsimp only
        rw [kD rfl]
       have HXE:=zh hxe;clear hxe;have HQN:Hid (Q62p (-v0)):=zh ⟨by omega,by omega⟩;have hwn:wrap64 (-v0)= -v0:=by unfold wrap64;omega
       have q1:=zF (C5.b 1 rfl);have q0:=zF (C5.b 0 rfl);go_wp2_with fail;refine My.rp (zCG (.mk 8 o i nm at_ (Co.zG l)) (-v0) (.slice (some ⟨b0,o0,none⟩) 1 cq) w4 HQN ⟨_,_,_,rfl⟩) C5 HBD HQN HXE ?_;rintro p9 YN c9 w7 C7 HBR;clear C5;have q0:=zF (C7.b 0 rfl);go_wp2;exact My.retE C7 (x:=X) (a:= .slice p9 YN c9) 0 rfl results41 rfl rfl HBR
     ·subst h9;have hN1:j=1:=by
       have h9:=(Co.zN HV).2;unfold Tr.okE at h9;simp at h9;have h7:=HN.out;omega
      subst hN1;have HVF:Hid (Tr.zT (Co.zG l)=true):=zh (Co.zU l (Co.zN HV).1);obtain⟨y0,hy0⟩:∃y,(Co.zG l)[0]? =some y:=⟨_,kB (by rw [Co.zAG,HN.out];omega)⟩;obtain⟨b0,o0,ay0,he0,_,hcy0,hby0,hsy0⟩:=SlE.get (C3.rd 0 rfl) hy0;cases he0;obtain⟨s0_0,s0_1,s0_2,s0_3,s0_4,s0_5⟩:=hcy0;obtain⟨pb0,cb0,rfl,_⟩:=hsy0.form;obtain⟨NB0,hNB0⟩:∃q,y0.args.length=q:=⟨_,rfl⟩;have HK0:=zh (zD9 y0 (.slice pb0 y0.args.length cb0) w3 hby0 hsy0 (h8_p HVF hy0));have HCB0:Hid (∀v,Co.const y0=some v-> -2305843009213693951<=v/\v<=2305843009213693951):=zh (fun v h=>Co.zCI (zH HVF hy0) h);have HE0:=zh hy0;rw [hNB0] at HK0 s0_5;unfold zK at HK0;simp only [Nat.zero_mul,Nat.add_zero] at s0_0 s0_1 s0_2 s0_3 s0_4 s0_5;clear hy0 hby0 hsy0 hNB0;have q1:=zF (C3.b 1 rfl);go_wp2_with fail;clear q1;refine HK0.mono ?_;rintro e w8 ⟨rfl,hb⟩;have C9:=zh (C3.below hb);clear C3;clear hb;clear s0_0 s0_1 s0_2 s0_3 s0_4 s0_5 HK0;cases hcn0:Co.const y0 with
      |none=>
       have HCN0:=zh hcn0;clear hcn0 HCB0;simp only [Option.getD_none,Option.isSome_none];have hxe:X= .mk 9 o i nm at_ (Co.zG l):=by
        rw [<-HX.out];rw [zAY (by omega) HE0.out,HCN0.out]
        try dsimp only
       subst hxe;have q1:=zF (C9.b 1 rfl);have q0:=zF (C9.b 0 rfl);go_wp2;exact My.retE C9 (a:= .slice (some ⟨b0,o0,none⟩) 1 cq) (x:= .mk 9 o i nm at_ (Co.zG l)) 0 rfl results41 rfl rfl HBD
      |some v0=>
       have HCN0:=zh hcn0;have hvb0:=HCB0 _ hcn0;clear hcn0 HCB0;simp only [Option.getD_some,Option.isSome_some];have hxe:X=Co.repl (.mk 9 o i nm at_ (Co.zG l)) (Co.bit (v0 == 0)):=by
        rw [<-HX.out];rw [zAY (by omega) HE0.out,HCN0.out]
        try dsimp only
        rw [kC (by decide),kD rfl]
       have HXE:=zh hxe;clear hxe;have HQN:Hid (Q62p (Co.bit (v0 == 0))):=zh (zC1 _);have q1:=zF (C9.b 1 rfl);go_upto_region 17 with fail;clear q1;obtain⟨w10,HW,C10⟩:=C9.drewE;refine wp_region_held_drew (S:=X6 E (.int .i64 9) (.int .i64 o) (.int .i64 i) (.string nm) (.bool at_) (.slice (some ⟨b0,o0,none⟩) 1 cq)) (by kernel_rfl) (by rw [<-HW.out];exact(x6_of (C10.b 1 rfl))) (fun hH=>?_);rw [<-HW.out] at hH |-;clear HW C9;refine rU 0 (some 65) ?_;refine rU 1 (some 66) ?_;refine rU 2 (some 67) ?_;clear hH;refine rR1 3 (some 68) (fun K hK=>?_);go_simp;refine(zKS (v0 == 0) w10).mono ?_;rintro e w' ⟨rfl,hww⟩;rw [hww];clear hww w';go_wp2;refine hK _ _ (x6_of (C10.b 1 rfl)) (fun hH=>?_);clear hK K hH
       try simp only [Act.put,q0,q1,q2]
       refine rR1 4 (some 69) (fun K hK=>?_);go_simp;refine My.rp (zCG (.mk 9 o i nm at_ (Co.zG l)) (Co.bit (v0 == 0)) (.slice (some ⟨b0,o0,none⟩) 1 cq) w10 HQN ⟨_,_,_,rfl⟩) C10 HBD HQN HXE ?_;rintro p9 YN c9 w11 C11 HBR;clear C10;go_wp2;refine hK _ _ (x6_of (C11.b 1 rfl)) (fun hH=>?_);clear hK K hH
       try simp only [Act.put,q0,q1,q2]
       refine rR1 5 none (fun K hK=>?_);have q0:=zF (C11.b 0 rfl);go_simp;refine hK _ _ (My.x6 C11) (fun hH=>?_);clear hK K hH
       try simp only [Act.put,q0,q1,q2]
       refine wpAnyH_done (by kernel_rfl) ?_ _;go_wp2;exact My.retE C11 (x:=X) (a:= .slice p9 YN c9) 0 rfl results41 rfl rfl HBR
     ·subst h10;have hN2:j=2:=by
       have h9:=(Co.zN HV).2;unfold Tr.okE at h9;simp at h9;have h7:=HN.out;omega
      subst hN2;have ho:=(Co.zSJ HV).2;have HVF:Hid (Tr.zT (Co.zG l)=true):=zh (Co.zU l (Co.zN HV).1);obtain⟨y0,hy0⟩:∃y,(Co.zG l)[0]? =some y:=⟨_,kB (by rw [Co.zAG,HN.out];omega)⟩;obtain⟨b0,o0,ay0,he0,_,hcy0,hby0,hsy0⟩:=SlE.get (C3.rd 0 rfl) hy0;cases he0;obtain⟨s0_0,s0_1,s0_2,s0_3,s0_4,s0_5⟩:=hcy0;obtain⟨pb0,cb0,rfl,_⟩:=hsy0.form;obtain⟨NB0,hNB0⟩:∃q,y0.args.length=q:=⟨_,rfl⟩;have HK0:=zh (zD9 y0 (.slice pb0 y0.args.length cb0) w3 hby0 hsy0 (h8_p HVF hy0));have HCB0:Hid (∀v,Co.const y0=some v-> -2305843009213693951<=v/\v<=2305843009213693951):=zh (fun v h=>Co.zCI (zH HVF hy0) h);have HE0:=zh hy0;rw [hNB0] at HK0 s0_5;unfold zK at HK0;simp only [Nat.zero_mul,Nat.add_zero] at s0_0 s0_1 s0_2 s0_3 s0_4 s0_5;clear hy0 hby0 hsy0 hNB0;have q1:=zF (C3.b 1 rfl);go_wp2_with fail;clear q1;refine HK0.mono ?_;rintro e w12 ⟨rfl,hb⟩;have C13:=zh (C3.below hb);clear C3;clear hb;clear s0_0 s0_1 s0_2 s0_3 s0_4 s0_5 HK0;cases hcn0:Co.const y0 with
      |none=>
       have HCN0:=zh hcn0;clear hcn0 HCB0;simp only [Option.getD_none,Option.isSome_none];have hxe:X= .mk 10 o i nm at_ (Co.zG l):=by
        rw [<-HX.out];rw [zAY (by omega) HE0.out,HCN0.out]
        try dsimp only
       subst hxe;have q1:=zF (C13.b 1 rfl);have q0:=zF (C13.b 0 rfl);go_wp2;exact My.retE C13 (a:= .slice (some ⟨b0,o0,none⟩) 2 cq) (x:= .mk 10 o i nm at_ (Co.zG l)) 0 rfl results41 rfl rfl HBD
      |some v0=>
       have HCN0:=zh hcn0;have hvb0:=HCB0 _ hcn0;clear hcn0 HCB0;simp only [Option.getD_some,Option.isSome_some];obtain⟨y1,hy1⟩:∃y,(Co.zG l)[1]? =some y:=⟨_,kB (by rw [Co.zAG,HN.out];omega)⟩;obtain⟨b1,o1,ay1,he1,_,hcy1,hby1,hsy1⟩:=SlE.get (C13.rd 0 rfl) hy1;cases he1;obtain⟨s1_0,s1_1,s1_2,s1_3,s1_4,s1_5⟩:=hcy1;obtain⟨pb1,cb1,rfl,_⟩:=hsy1.form;obtain⟨NB1,hNB1⟩:∃q,y1.args.length=q:=⟨_,rfl⟩;have HK1:=zh (zD9 y1 (.slice pb1 y1.args.length cb1) w12 hby1 hsy1 (h8_p HVF hy1));have HCB1:Hid (∀v,Co.const y1=some v-> -2305843009213693951<=v/\v<=2305843009213693951):=zh (fun v h=>Co.zCI (zH HVF hy1) h);have HE1:=zh hy1;rw [hNB1] at HK1 s1_5;unfold zK at HK1;simp only [Nat.one_mul] at s1_0 s1_1 s1_2 s1_3 s1_4 s1_5;clear hy1 hby1 hsy1 hNB1;have q1:=zF (C13.b 1 rfl);go_wp2_with fail;clear q1;refine HK1.mono ?_;rintro e w14 ⟨rfl,hb⟩;have C15:=zh (C13.below hb);clear C13;clear hb;clear s1_0 s1_1 s1_2 s1_3 s1_4 s1_5 HK1;cases hcn1:Co.const y1 with
       |none=>
        have HCN1:=zh hcn1;clear hcn1 HCB1;simp only [Option.getD_none,Option.isSome_none];by_cases h11:o=11
        ·subst h11;by_cases hv0:v0=0
         ·subst hv0;have hxe:X=Co.repl (.mk 10 11 i nm at_ (Co.zG l)) (0):=by
           rw [<-HX.out];rw [zAY (by omega) HE0.out,HCN0.out]
           try dsimp only
           rw [kC (by decide),kC (by decide)];rw [kD ⟨rfl,rfl⟩]
          have HXE:=zh hxe;clear hxe;have HQN:Hid (Q62p (0)):=zh ⟨by decide,by decide⟩;have q1:=zF (C15.b 1 rfl);have q0:=zF (C15.b 0 rfl);go_wp2_with fail;refine My.rp (zCG (.mk 10 11 i nm at_ (Co.zG l)) (0) (.slice (some ⟨b0,o0,none⟩) 2 cq) w14 HQN ⟨_,_,_,rfl⟩) C15 HBD HQN HXE ?_;rintro p9 YN c9 w17 C17 HBR;clear C15;have q0:=zF (C17.b 0 rfl);go_wp2;exact My.retE C17 (x:=X) (a:= .slice p9 YN c9) 0 rfl results41 rfl rfl HBR
         ·have hvb:(v0 == 0)=false:=kA.2 hv0;have hvn:(v0 != 0)=true:=bne_iff_ne.2 hv0;have hxe:X= .mk 10 11 i nm at_ (Co.zG l):=by
           rw [<-HX.out];rw [zAY (by omega) HE0.out,HCN0.out]
           try dsimp only
           rw [kC (by decide),kC (by decide)];rw [kC (by intro h;exact hv0 h.2),kC (by intro h;exact absurd h.1 (by decide))];rw [zB7 HE1.out,HCN1.out]
           try dsimp only
          subst hxe;have q1:=zF (C15.b 1 rfl);have q0:=zF (C15.b 0 rfl);go_wp2;exact My.retE C15 (a:= .slice (some ⟨b0,o0,none⟩) 2 cq) (x:= .mk 10 11 i nm at_ (Co.zG l)) 0 rfl results41 rfl rfl HBD
        ·by_cases h12:o=12
         ·subst h12;by_cases hv0:v0=0
          ·subst hv0;have hxe:X= .mk 10 12 i nm at_ (Co.zG l):=by
            rw [<-HX.out];rw [zAY (by omega) HE0.out,HCN0.out]
            try dsimp only
            rw [kC (by decide),kC (by decide)];rw [kC (by intro h;exact absurd h.1 (by decide)),kC (by intro h;exact h.2 rfl)];rw [zB7 HE1.out,HCN1.out]
            try dsimp only
           subst hxe;have q1:=zF (C15.b 1 rfl);have q0:=zF (C15.b 0 rfl);go_wp2;exact My.retE C15 (a:= .slice (some ⟨b0,o0,none⟩) 2 cq) (x:= .mk 10 12 i nm at_ (Co.zG l)) 0 rfl results41 rfl rfl HBD
          ·have hvb:(v0 == 0)=false:=kA.2 hv0;have hvn:(v0 != 0)=true:=bne_iff_ne.2 hv0;have hxe:X=Co.repl (.mk 10 12 i nm at_ (Co.zG l)) (1):=by
            rw [<-HX.out];rw [zAY (by omega) HE0.out,HCN0.out]
            try dsimp only
            rw [kC (by decide),kC (by decide)];rw [kC (by intro h;exact absurd h.1 (by decide)),kD ⟨rfl,hv0⟩]
           have HXE:=zh hxe;clear hxe;have HQN:Hid (Q62p (1)):=zh ⟨by decide,by decide⟩;have q1:=zF (C15.b 1 rfl);have q0:=zF (C15.b 0 rfl);go_wp2_with fail;refine My.rp (zCG (.mk 10 12 i nm at_ (Co.zG l)) (1) (.slice (some ⟨b0,o0,none⟩) 2 cq) w14 HQN ⟨_,_,_,rfl⟩) C15 HBD HQN HXE ?_;rintro p9 YN c9 w19 C19 HBR;clear C15;have q0:=zF (C19.b 0 rfl);go_wp2;exact My.retE C19 (x:=X) (a:= .slice p9 YN c9) 0 rfl results41 rfl rfl HBR
         ·have h11b:(o == 11)=false:=kA.2 h11;have h12b:(o == 12)=false:=kA.2 h12;have hxe:X= .mk 10 o i nm at_ (Co.zG l):=by
           rw [<-HX.out];rw [zAY (by omega) HE0.out,HCN0.out]
           try dsimp only
           rw [kC (by decide),kC (by decide)];rw [kC (by intro h;exact h11 h.1),kC (by intro h;exact h12 h.1)];rw [zB7 HE1.out,HCN1.out]
           try dsimp only
          subst hxe;have q1:=zF (C15.b 1 rfl);have q0:=zF (C15.b 0 rfl);go_wp2;exact My.retE C15 (a:= .slice (some ⟨b0,o0,none⟩) 2 cq) (x:= .mk 10 o i nm at_ (Co.zG l)) 0 rfl results41 rfl rfl HBD
       |some v1=>
        have HCN1:=zh hcn1;have hvb1:=HCB1 _ hcn1;clear hcn1 HCB1;simp only [Option.getD_some,Option.isSome_some];by_cases h11:o=11
        ·subst h11;by_cases hv0:v0=0
         ·subst hv0;have hxe:X=Co.repl (.mk 10 11 i nm at_ (Co.zG l)) (0):=by
           rw [<-HX.out];rw [zAY (by omega) HE0.out,HCN0.out]
           try dsimp only
           rw [kC (by decide),kC (by decide)];rw [kD ⟨rfl,rfl⟩]
          have HXE:=zh hxe;clear hxe;have HQN:Hid (Q62p (0)):=zh ⟨by decide,by decide⟩;have q1:=zF (C15.b 1 rfl);have q0:=zF (C15.b 0 rfl);go_wp2_with fail;refine My.rp (zCG (.mk 10 11 i nm at_ (Co.zG l)) (0) (.slice (some ⟨b0,o0,none⟩) 2 cq) w14 HQN ⟨_,_,_,rfl⟩) C15 HBD HQN HXE ?_;rintro p9 YN c9 w21 C21 HBR;clear C15;have q0:=zF (C21.b 0 rfl);go_wp2;exact My.retE C21 (x:=X) (a:= .slice p9 YN c9) 0 rfl results41 rfl rfl HBR
         ·have hvb:(v0 == 0)=false:=kA.2 hv0;have hvn:(v0 != 0)=true:=bne_iff_ne.2 hv0;have HI1:Hid (¬((11:Int)=11/\v0=0)):=zh (by omega);have HI2:Hid (¬((11:Int)=12/\v0≠0)):=zh (by omega);have hxe:X=Co.repl (.mk 10 11 i nm at_ (Co.zG l)) (Co.bit (v1 != 0)):=by
           rw [<-HX.out];rw [zAY (by omega) HE0.out,HCN0.out]
           try dsimp only
           rw [kC (by decide),kC (by decide)];rw [kC HI1.out,kC HI2.out];rw [zB7 HE1.out,HCN1.out]
           try dsimp only
           rw [kD (by decide)]
          have HXE:=zh hxe;clear hxe;have HQN:Hid (Q62p (Co.bit (v1 != 0))):=zh (zC1 _);have q1:=zF (C15.b 1 rfl);go_upto_region 26 with fail;clear q1;obtain⟨w22,HW,C22⟩:=C15.drewE;refine wp_region_held_drew (S:=X6 E (.int .i64 10) (.int .i64 11) (.int .i64 i) (.string nm) (.bool at_) (.slice (some ⟨b0,o0,none⟩) 2 cq)) (by kernel_rfl) (by rw [<-HW.out];exact(x6_of (C22.b 1 rfl))) (fun hH=>?_);rw [<-HW.out] at hH |-;clear HW C15;refine rU 0 (some 110) ?_;refine rU 1 (some 111) ?_;refine rU 2 (some 112) ?_;clear hH;refine rR1 3 (some 113) (fun K hK=>?_);go_simp;refine(zKS (v1 != 0) w22).mono ?_;rintro e w' ⟨rfl,hww⟩;rw [hww];clear hww w';go_wp2;refine hK _ _ (x6_of (C22.b 1 rfl)) (fun hH=>?_);clear hK K hH
          try simp only [Act.put,q0,q1,q2]
          refine rR1 4 (some 114) (fun K hK=>?_);go_simp;refine My.rp (zCG (.mk 10 11 i nm at_ (Co.zG l)) (Co.bit (v1 != 0)) (.slice (some ⟨b0,o0,none⟩) 2 cq) w22 HQN ⟨_,_,_,rfl⟩) C22 HBD HQN HXE ?_;rintro p9 YN c9 w23 C23 HBR;clear C22;go_wp2;refine hK _ _ (x6_of (C23.b 1 rfl)) (fun hH=>?_);clear hK K hH
          try simp only [Act.put,q0,q1,q2]
          refine rR1 5 none (fun K hK=>?_);have q0:=zF (C23.b 0 rfl);go_simp;refine hK _ _ (My.x6 C23) (fun hH=>?_);clear hK K hH
          try simp only [Act.put,q0,q1,q2]
          refine wpAnyH_done (by kernel_rfl) ?_ _;go_wp2;exact My.retE C23 (x:=X) (a:= .slice p9 YN c9) 0 rfl results41 rfl rfl HBR
        ·by_cases h12:o=12
         ·subst h12;by_cases hv0:v0=0
          ·subst hv0;have HI1:Hid (¬((12:Int)=11/\(0:Int)=0)):=zh (by decide);have HI2:Hid (¬((12:Int)=12/\(0:Int)≠0)):=zh (by decide);have hxe:X=Co.repl (.mk 10 12 i nm at_ (Co.zG l)) (Co.bit (v1 != 0)):=by
            rw [<-HX.out];rw [zAY (by omega) HE0.out,HCN0.out]
            try dsimp only
            rw [kC (by decide),kC (by decide)];rw [kC HI1.out,kC HI2.out];rw [zB7 HE1.out,HCN1.out]
            try dsimp only
            rw [kD (by decide)]
           have HXE:=zh hxe;clear hxe;have HQN:Hid (Q62p (Co.bit (v1 != 0))):=zh (zC1 _);have q1:=zF (C15.b 1 rfl);go_upto_region 26 with fail;clear q1;obtain⟨w24,HW,C24⟩:=C15.drewE;refine wp_region_held_drew (S:=X6 E (.int .i64 10) (.int .i64 12) (.int .i64 i) (.string nm) (.bool at_) (.slice (some ⟨b0,o0,none⟩) 2 cq)) (by kernel_rfl) (by rw [<-HW.out];exact(x6_of (C24.b 1 rfl))) (fun hH=>?_);rw [<-HW.out] at hH |-;clear HW C15;refine rU 0 (some 110) ?_;refine rU 1 (some 111) ?_;refine rU 2 (some 112) ?_;clear hH;refine rR1 3 (some 113) (fun K hK=>?_);go_simp;refine(zKS (v1 != 0) w24).mono ?_;rintro e w' ⟨rfl,hww⟩;rw [hww];clear hww w';go_wp2;refine hK _ _ (x6_of (C24.b 1 rfl)) (fun hH=>?_);clear hK K hH
           try simp only [Act.put,q0,q1,q2]
           refine rR1 4 (some 114) (fun K hK=>?_);go_simp;refine My.rp (zCG (.mk 10 12 i nm at_ (Co.zG l)) (Co.bit (v1 != 0)) (.slice (some ⟨b0,o0,none⟩) 2 cq) w24 HQN ⟨_,_,_,rfl⟩) C24 HBD HQN HXE ?_;rintro p9 YN c9 w25 C25 HBR;clear C24;go_wp2;refine hK _ _ (x6_of (C25.b 1 rfl)) (fun hH=>?_);clear hK K hH
           try simp only [Act.put,q0,q1,q2]
           refine rR1 5 none (fun K hK=>?_);have q0:=zF (C25.b 0 rfl);go_simp;refine hK _ _ (My.x6 C25) (fun hH=>?_);clear hK K hH
           try simp only [Act.put,q0,q1,q2]
           refine wpAnyH_done (by kernel_rfl) ?_ _;go_wp2;exact My.retE C25 (x:=X) (a:= .slice p9 YN c9) 0 rfl results41 rfl rfl HBR
          ·have hvb:(v0 == 0)=false:=kA.2 hv0;have hvn:(v0 != 0)=true:=bne_iff_ne.2 hv0;have hxe:X=Co.repl (.mk 10 12 i nm at_ (Co.zG l)) (1):=by
            rw [<-HX.out];rw [zAY (by omega) HE0.out,HCN0.out]
            try dsimp only
            rw [kC (by decide),kC (by decide)];rw [kC (by intro h;exact absurd h.1 (by decide)),kD ⟨rfl,hv0⟩]
           have HXE:=zh hxe;clear hxe;have HQN:Hid (Q62p (1)):=zh ⟨by decide,by decide⟩;have q1:=zF (C15.b 1 rfl);have q0:=zF (C15.b 0 rfl);go_wp2_with fail;refine My.rp (zCG (.mk 10 12 i nm at_ (Co.zG l)) (1) (.slice (some ⟨b0,o0,none⟩) 2 cq) w14 HQN ⟨_,_,_,rfl⟩) C15 HBD HQN HXE ?_;rintro p9 YN c9 w27 C27 HBR;clear C15;have q0:=zF (C27.b 0 rfl);go_wp2;exact My.retE C27 (x:=X) (a:= .slice p9 YN c9) 0 rfl results41 rfl rfl HBR
         ·have h11b:(o == 11)=false:=kA.2 h11;have h12b:(o == 12)=false:=kA.2 h12;have H1112:=zh (And.intro h11 h12);have HKC:=zh (zNI o v0 v1 ho.1 (by omega) ⟨by omega,by omega⟩ hvb0.1 ⟨by omega,by omega⟩ w14);have q1:=zF (C15.b 1 rfl);go_wp2_with fail;refine HKC.mono ?_;rintro e w28 ⟨rfl,hb⟩;have C29:=zh (C15.below hb);clear C15;clear hb HKC q1;have HCQ:Hid (∀n,Co.calcO o v0 v1=some n-> -2305843009213693952<=n/\n<=2305843009213693951):=zh (fun n h=>Co.zKR hvb0 h);cases hca:Co.calcO o v0 v1 with
          |none=>
           have hcalc:=zh hca;clear hca HCQ;simp only [Option.getD_none,Option.isSome_none];have hxe:X= .mk 10 o i nm at_ (Co.zG l):=by
            rw [<-HX.out];rw [zAY (by omega) HE0.out,HCN0.out]
            try dsimp only
            rw [kC (by decide),kC (by decide)];rw [kC (by intro h;exact H1112.1 h.1),kC (by intro h;exact H1112.2 h.1)];rw [zB7 HE1.out,HCN1.out]
            try dsimp only
            rw [kC (by intro h;rcases h with h|h;exact H1112.1 h;exact H1112.2 h),hcalc.out]
           subst hxe;have q1:=zF (C29.b 1 rfl);have q0:=zF (C29.b 0 rfl);go_wp2;exact My.retE C29 (a:= .slice (some ⟨b0,o0,none⟩) 2 cq) (x:= .mk 10 o i nm at_ (Co.zG l)) 0 rfl results41 rfl rfl HBD
          |some n=>
           have hcalc:=zh hca;have hnb:=HCQ _ hca;clear hca HCQ;simp only [Option.getD_some,Option.isSome_some];have hxe:X=Co.repl (.mk 10 o i nm at_ (Co.zG l)) (n):=by
            rw [<-HX.out];rw [zAY (by omega) HE0.out,HCN0.out]
            try dsimp only
            rw [kC (by decide),kC (by decide)];rw [kC (by intro h;exact H1112.1 h.1),kC (by intro h;exact H1112.2 h.1)];rw [zB7 HE1.out,HCN1.out]
            try dsimp only
            rw [kC (by intro h;rcases h with h|h;exact H1112.1 h;exact H1112.2 h),hcalc.out]
           have HXE:=zh hxe;clear hxe;have HQN:Hid (Q62p (n)):=zh hnb;have q1:=zF (C29.b 1 rfl);have q0:=zF (C29.b 0 rfl);go_wp2_with fail;refine My.rp (zCG (.mk 10 o i nm at_ (Co.zG l)) (n) (.slice (some ⟨b0,o0,none⟩) 2 cq) w28 HQN ⟨_,_,_,rfl⟩) C29 HBD HQN HXE ?_;rintro p9 YN c9 w31 C31 HBR;clear C29;have q0:=zF (C31.b 0 rfl);go_wp2;exact My.retE C31 (x:=X) (a:= .slice p9 YN c9) 0 rfl results41 rfl rfl HBR
    ·have h8:(k != 8)=true:=bne_iff_ne.2 (by omega);have h9:(k != 9)=true:=bne_iff_ne.2 (by omega);have h10:(k != 10)=true:=bne_iff_ne.2 (by omega);have hxe:X= .mk k o i nm at_ (Co.zG l):=by
      rw [<-HX.out];unfold Co.top;dsimp only;rw [kC hk]
     subst hxe;have q1:=zF (C3.b 1 rfl);have q0:=zF (C3.b 0 rfl);go_wp2;exact My.retE C3 (a:= .slice pq j cq) (x:= .mk k o i nm at_ (Co.zG l)) 0 rfl results41 rfl rfl HBD
end Cw
end
section
section
variable {P:Program} {ops:Array Oper} {Q:Exit->Act->World->Prop} {md:Region.Mode} {S T:World->Prop} {k:Nat}
def wpAnyT (P:Program) (md:Region.Mode) (ops:Array Oper) (Q:Exit->Act->World->Prop) (S T:World->Prop) (k:Nat):Nat->Array Bool->Act->World->Prop
 |0,l,a,w=>wpAnyH P md ops Q S 0 l a w
 |f+1,l,a,w=>(Region.ready md ops l= []->Q .normal a w)/\∀i∈Region.ready md ops l,wpOp P ops Q i (fun a' w'=>if i=k then S w'/\wpAnyH P md ops Q S f (l.setIfInBounds i true) a' w' else(S w'/\T w')/\wpAnyT P md ops Q S T k f (l.setIfInBounds i true) a' w') a w
theorem zDK:∀(f:Nat) (l:Array Bool) (a:Act) (w:World),wpAnyT P md ops Q S T k f l a w->wpAnyH P md ops Q S f l a w
 |0,_,_,_,h=>h
 |f+1,_,_,_,h=>⟨h.1,fun i hi=>wpOp_mono (fun a' w' h'=>by
   by_cases hk:i=k
   ·rw [kD hk] at h';exact h'
   ·rw [kC hk] at h';exact⟨h'.1.1,zDK f _ a' w' h'.2⟩) (h.2 i hi)⟩
theorem zKU {i:Nat} {oi:Oper} {v:Value} (hi:ops[i]? =some oi) (hsel:∀(j:Nat) (o:Oper) cs b,ops[j]? =some o->o.op≠ .select cs b) (hQ:∀c a w,Q (.panic c) (a.put oi.dst v) w->Q (.panic c) a w) (hik:i≠k) (hk:∀o,ops[k]? =some o->∃e∈o.after,Region.binds md e=true/\e.on=i):
 ∀(fuel:Nat) (l:Array Bool) (a:Act) (w:World),(∀j oj,ops[j]? =some oj->j≠i->l.getD j true=false->(∀e∈oj.after,Region.binds md e=true->e.on≠i)->oi.apart ops oj=true)->
  i∈Region.ready md ops l->YieldsIf P ops (fun w=>S w/\T w) oi v a->S w/\T w->wpAnyT P md ops Q S T k fuel (l.setIfInBounds i true) (a.put oi.dst v) w->wpAnyT P md ops Q S T k (fuel+1) l a w:=by
 intro fuel
 induction fuel with
 |zero=>
  intro l a w _ hr hy hS H;refine⟨fun h=>(by rw [h] at hr;cases hr),fun j hj=>?_⟩;by_cases hji:j=i
  ·subst hji;exact hy.wpOp hi hS (by rw [kC hik];exact⟨hS,H⟩)
  ·have:=ready_mono hj hji;rw [H.1] at this;cases this
 |succ fuel ih=>
  intro l a w hfree hr hy hS H;refine⟨fun h=>(by rw [h] at hr;cases hr),fun j hj=>?_⟩;by_cases hji:j=i
  ·subst hji;exact hy.wpOp hi hS (by rw [kC hik];exact⟨hS,H⟩)
  ·have h1:=H.2 j (ready_mono hj hji);obtain⟨hjun,oj,hoj,hall⟩:=mem_ready.1 hj;have hnot:∀e∈oj.after,Region.binds md e=true->e.on≠i:=fun e he hb heq=>by
    have h1:=hall e he hb;have h0:=(mem_ready.1 hr).1;rw [heq] at h1;rcases Nat.lt_or_ge i l.size with h'|h'
    ·simp [h'] at h0 h1;rw [h0] at h1;cases h1
    ·simp [Array.getElem?_eq_none h'] at h1
   have hjk:j≠k:=fun e=>by
    subst e;obtain⟨e,he,hb,h⟩:=hk oj hoj;exact hnot e he hb h
   simp only [kC hjk] at h1 |-;have h2:=wpOp_putIf hoj (hfree j oj hoj hji hjun hnot) (fun cs b=>hsel i oi cs b hi) (fun cs b=>hsel j oj cs b hoj) hQ hy h1;have hfree':∀q oq,ops[q]? =some oq->q≠i->(l.setIfInBounds j true).getD q true=false->(∀e∈oq.after,Region.binds md e=true->e.on≠i)->oi.apart ops oq=true:=fun q oq hq hqi hun hno=>by
    refine hfree q oq hq hqi ?_ hno;by_cases hjq:j=q
    ·subst hjq;exact hjun
    ·rw [getD_set_ne true hjq] at hun;exact hun
   refine wpOp_mono (fun a' w' h3=>⟨h3.2.1,ih (l.setIfInBounds j true) a' w' hfree' (ready_mono hr (Ne.symm hji)) h3.1 h3.2.1 ?_⟩) h2;rw [Array.setIfInBounds_comm _ _ hji];exact h3.2.2
def waitsB (md:Region.Mode) (ops:Array Oper) (k i:Nat):Bool:=((ops[k]?).map fun o=>o.after.any fun e=>Region.binds md e && e.on == i).getD true
theorem zMH {i:Nat} (h:waitsB md ops k i=true):∀o,ops[k]? =some o->∃e∈o.after,Region.binds md e=true/\e.on=i:=fun o ho=>by
 unfold waitsB at h;rw [ho] at h;simp only [Option.map_some,Option.getD_some] at h;rw [Array.any_eq_true] at h;obtain⟨n,hn,h1⟩:=h;rw [kW,kX] at h1;exact⟨_,Array.getElem_mem hn,h1.1,h1.2⟩
theorem zMF {i:Nat} {oi:Oper} {v:Value} {fuel:Nat} {l:Array Bool} {a:Act} {w:World} (hi:ops[i]? =some oi) (hs:Region.noSelect ops=true) (hf:Region.free md ops l i=true) (hr:(Region.ready md ops l).contains i=true) (hik:i≠k) (hk:waitsB md ops k i=true)
 (hQ:∀c a w,Q (.panic c) (a.put oi.dst v) w->Q (.panic c) a w) (hy:YieldsIf P ops (fun w=>S w/\T w) oi v a) (hS:S w/\T w) (h:wpAnyT P md ops Q S T k fuel (l.setIfInBounds i true) (a.put oi.dst v) w):wpAnyT P md ops Q S T k (fuel+1) l a w:=
 zKU hi (Region.noSelect_spec hs) hQ hik (zMH hk) fuel l a w (Region.free_spec hi hf) (by simpa using hr) hy hS h
theorem tT (i:Nat) (d:Option Nat) {fuel:Nat} {listed:Array Bool} {a:Act} {w:World} {x1:Op} {x2:TypeId} {x3:String} {x4:Array Edge} {x5:Option (Nat × Bool)} {v:Value} (h:wpAnyT P md ops Q S T k fuel (listed.setIfInBounds i true) (a.put d v) w)
 (hi:ops[i]? =some ⟨d,x1,x2,x3,x4,x5⟩:=by rfl) (hw:Region.wanted ⟨d,x1,x2,x3,x4,x5⟩ (yielded ops a.tmps)=true:=by rfl)
 (hv:∀w,S w/\T w->(execOp a.eval ⟨d,x1,x2,x3,x4,x5⟩).run P w= .ok (.value v) w:=by intro w hSw;(try dsimp only at hSw);go_simp;(try with_reducible rfl))
 (hs:Region.noSelect ops=true:=by kernel_rfl) (hf:Region.free md ops listed i=true:=by kernel_rfl) (hr:(Region.ready md ops listed).contains i=true:=by kernel_rfl) (hik:i≠k:=by decide) (hk:waitsB md ops k i=true:=by kernel_rfl)
 (hQ:∀c a w,Q (.panic c) (a.put d v) w->Q (.panic c) a w:=by exact fun _ _ _ h=>h) (hS:S w/\T w:=by first|trivial|assumption):wpAnyT P md ops Q S T k (fuel+1) listed a w:=
 zMF hi hs hf hr hik hk hQ (Or.inl ⟨hw,hv⟩) hS h
theorem tR1 (i:Nat) (d:Option Nat) {fuel:Nat} {listed:Array Bool} {a:Act} {w:World} {x1:Op} {x2:TypeId} {x3:String} {x4:Array Edge} {x5:Option (Nat × Bool)}
 (h:∀K':Act->World->Prop,Shut (∀a w,S w/\T w->(S w/\T w->wpAnyT P md ops Q S T k fuel (listed.setIfInBounds i true) a w)->K' a w)->if Region.wanted ⟨d,x1,x2,x3,x4,x5⟩ (yielded ops a.tmps)=true then Oper.wp P ⟨d,x1,x2,x3,x4,x5⟩ a w K' Q else K' (a.put d undef) w)
 (hr:Region.ready md ops listed= [i]:=by kernel_rfl) (hi:ops[i]? =some ⟨d,x1,x2,x3,x4,x5⟩:=by rfl) (hik:i≠k:=by decide):wpAnyT P md ops Q S T k (fuel+1) listed a w:=
 ⟨fun h0=>absurd (hr▸h0) (by simp),fun q hq=>by
  rw [hr,kT] at hq;subst hq;exact wpOp_step hi (fun K' hK=>h K' (fun a w hS hW=>hK a w (by rw [kC hik];exact⟨hS,hW hS⟩)))⟩
theorem tR2 (i:Nat) (d:Option Nat) (j:Nat) (d':Option Nat) {fuel:Nat} {listed:Array Bool} {a:Act} {w:World} {x1:Op} {x2:TypeId} {x3:String} {x4:Array Edge} {x5:Option (Nat × Bool)} {y1:Op} {y2:TypeId} {y3:String} {y4:Array Edge} {y5:Option (Nat × Bool)}
 (h:∀K':Act->World->Prop,Shut (∀a w,S w/\T w->(S w/\T w->wpAnyT P md ops Q S T k fuel (listed.setIfInBounds i true) a w)->K' a w)->if Region.wanted ⟨d,x1,x2,x3,x4,x5⟩ (yielded ops a.tmps)=true then Oper.wp P ⟨d,x1,x2,x3,x4,x5⟩ a w K' Q else K' (a.put d undef) w)
 (h':∀K':Act->World->Prop,Shut (∀a w,S w/\T w->(S w/\T w->wpAnyT P md ops Q S T k fuel (listed.setIfInBounds j true) a w)->K' a w)->if Region.wanted ⟨d',y1,y2,y3,y4,y5⟩ (yielded ops a.tmps)=true then Oper.wp P ⟨d',y1,y2,y3,y4,y5⟩ a w K' Q else K' (a.put d' undef) w)
 (hr:Region.ready md ops listed= [i,j]:=by kernel_rfl) (hi:ops[i]? =some ⟨d,x1,x2,x3,x4,x5⟩:=by rfl) (hj:ops[j]? =some ⟨d',y1,y2,y3,y4,y5⟩:=by rfl) (hik:i≠k:=by decide) (hjk:j≠k:=by decide):wpAnyT P md ops Q S T k (fuel+1) listed a w:=
 ⟨fun h0=>absurd (hr▸h0) (by simp),fun q hq=>by
  rw [hr,kV,kT] at hq;rcases hq with e|e<;>subst e
  ·exact wpOp_step hi (fun K' hK=>h K' (fun a w hS hW=>hK a w (by rw [kC hik];exact⟨hS,hW hS⟩)))
  ·exact wpOp_step hj (fun K' hK=>h' K' (fun a w hS hW=>hK a w (by rw [kC hjk];exact⟨hS,hW hS⟩)))⟩
theorem tK (i:Nat) (d:Option Nat) {fuel:Nat} {listed:Array Bool} {a:Act} {w:World} {x1:Op} {x2:TypeId} {x3:String} {x4:Array Edge} {x5:Option (Nat × Bool)}
 (h:∀K':Act->World->Prop,Shut (∀a w,S w->(S w->wpAnyH P md ops Q S fuel (listed.setIfInBounds i true) a w)->K' a w)->if Region.wanted ⟨d,x1,x2,x3,x4,x5⟩ (yielded ops a.tmps)=true then Oper.wp P ⟨d,x1,x2,x3,x4,x5⟩ a w K' Q else K' (a.put d undef) w)
 (hr:Region.ready md ops listed= [i]:=by kernel_rfl) (hi:ops[i]? =some ⟨d,x1,x2,x3,x4,x5⟩:=by rfl) (hik:i=k:=by rfl):wpAnyT P md ops Q S T k (fuel+1) listed a w:=
 ⟨fun h0=>absurd (hr▸h0) (by simp),fun q hq=>by
  rw [hr,kT] at hq;subst hq;exact wpOp_step hi (fun K' hK=>h K' (fun a w hS hW=>hK a w (by rw [kD hik];exact⟨hS,hW hS⟩)))⟩
end
end
end Go.Proofs.YtcnmfcgmnkncaaaGreatDoor
