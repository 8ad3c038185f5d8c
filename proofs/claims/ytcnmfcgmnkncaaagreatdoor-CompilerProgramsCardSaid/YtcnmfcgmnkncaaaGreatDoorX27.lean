/-
  fold of the reference, walked.
-/
import Derived.Test.YtcnmfcgmnkncaaaGreatDoorX26
import Derived.Test.YtcnmfcgmnkncaaaGreatDoorX12
set_option maxRecDepth 100000
set_option maxHeartbeats 40000000
open Go.Proofs.Tryz
namespace Go.Proofs.YtcnmfcgmnkncaaaGreatDoor
namespace Cw
open Go.RowKit Go.Maps Pw
theorem zRW:∀(d:Nat) (e:Tr.E) (a:Value) (w:World),e.deep<=d->Co.wE e<=900000->Tr.zE e=true->BdE e->SlE w a e.args->Calls prog 43 #[zK e a] w (FP (Co.fold e) w):=by
 intro d
 induction d with
 |zero=>intro e a w hd;have:=e.deep_pos;omega
 |succ d ih=>
  intro e a w hd hw hv hbd hS;obtain⟨i0,hi0,hz0,hz1,hz2⟩:=info_parts exprInfo;obtain⟨k,o,i,nm,at_,l⟩:=e;have hvl:=(Co.zN hv).1;have hS':SlE w a l:=hS;obtain⟨p,c,rfl,_⟩:=hS'.form;have hNw:l.length<=900000:=kG (zUG (e:= .mk k o i nm at_ l)) hw;obtain⟨N,hN⟩:∃q,l.length=q:=⟨_,rfl⟩;rw [hN] at hS' hNw;have HIH:Hid (∀(j:Nat) (x:Tr.E) (aa:Value) (W:World),l[j]? =some x->BdE x->SlE W aa x.args->Calls prog 43 #[zK x aa] W (FP (Co.fold x) W)):=zh (fun j x aa W hj hb hs=>ih x aa W (Tr.E.deep_args hd (e:= .mk k o i nm at_ l) hj) (kG (kG (zHF hj) (zP4 (e:= .mk k o i nm at_ l))) hw) (zH hvl hj) hb hs);have HBD:Hid (BdE (.mk k o i nm at_ (Co.zG l))):=zh ⟨hbd.kind,hbd.op,hbd.int,hbd.name⟩;have HBK:=zh hbd;have HS:=zh hS';have HN:=zh hN;have HV:=zh hv;obtain⟨X,hX⟩:∃q,Co.fold (.mk k o i nm at_ l)=q:=⟨_,rfl⟩;rw [hX];have HX:Hid (Co.top (.mk k o i nm at_ (Co.zG l))=X):=zh (by rw [<-hX,Co.fold]);unfold zK;simp only [Tr.E.kind,Tr.E.op,Tr.E.int,Tr.E.name,Tr.E.at_];rw [hN];have C0:=zh (My.start w);clear hd hw hv hbd hS hS' hvl hN hX ih;obtain⟨E,w32,HX32,HW32,hx32,C32⟩:=C0.boxE #[.int .i64 k,.int .i64 o,.int .i64 i,.string nm,.bool at_,.slice p N c] 37;obtain⟨R,w33,HX33,HW33,hx33,C33⟩:=C32.boxE #[.int .i64 0,.int .i64 0,.int .i64 0,.string ⟨#[]⟩,.bool false,.slice none 0 0] 37;have HY33:Hid (R=E+1):=zh (by rw [HX33.out,HW32.out,HX32.out];simp);go_in;go_upto_region 1 with fail;rw [<-HX32.out,<-HW32.out,<-HY33.out,<-HW33.out];clear HX32 HW32 C0 HY33 HX33 HW33 C32;have q1:=zF (C33.b 1 rfl);go_wp2_with fail;obtain⟨wm,HWM⟩:∃q,Hid (q=w33.alloc (.cells #[] 37)):=⟨_,zh rfl⟩;rw [<-HWM.out];have HR0:Hid (RowOk zAK 6 37 zBD w.heap.size [R,E] wm (.slice (some ⟨w33.heap.size,0,none⟩) 0 0) []):=zh (RowOk.made (by rw [HWM.out];have h9:=own_empty w33 37 6;exact⟨h9.1,by rcases h9.2 with h8|⟨g,cap,cur,e1,_,e3⟩;exact .inl h8;exact .inr ⟨g,cap,cur,e1,by injection e1 with e1;injection e1 with e1;injection e1 with e1;rw [<-e1];exact C33.le,e3⟩⟩) (fun q hq=>(C33.lts hq).2.1));have CM:=zh (C33.below (W':=wm) (by rw [HWM.out];exact zD _ _));clear HWM q1
  go_loopg [3,4] N (fun gg s3 s4 wr=>∃j:Nat,s4= .int .i64 j/\j<=N/\gg=N -j/\∃tr:List ET,Hid (tr.map Prod.fst=Co.zG (l.take j))/\Hid (My w [(R,#[.int .i64 0,.int .i64 0,.int .i64 0,.string ⟨#[]⟩,.bool false,.slice none 0 0],37),(E,#[.int .i64 k,.int .i64 o,.int .i64 i,.string nm,.bool at_,.slice p N c],37)] [] wr)/\Hid (RowOk zAK 6 37 zBD w.heap.size [R,E] wr s3 tr))
  case atStart=>exact ⟨0,rfl,kO _,rfl,[],zh (by rw [List.take_zero,Co.zG];rfl),CM,HR0⟩
  case round=>
   clear CM HR0;obtain⟨j,rfl,hj,rfl,tr,HTR,CR,HST⟩:=hrel;have htl:tr.length=j:=by
    have h9:=congrArg List.length HTR;rw [List.length_map,Co.zAG,List.length_take,HN.out] at h9;omega
   obtain⟨pq,cq,rfl⟩:=own_form HST.own;rw [htl] at HST |-;have HTL:=zh htl;clear htl;by_cases hlt:j<N
   ·obtain⟨x,hx⟩:∃x,l[j]? =some x:=⟨_,kB (by rw [HN.out];exact hlt)⟩;obtain⟨b,oo,aa,rfl,hblt,hc,hbdx,hsl⟩:=(HS.keep (My.fin CR.out)).get hx;obtain⟨x0,x1,x2,x3,x4,x5⟩:=hc;obtain⟨pa0,ca0,rfl,_⟩:=hsl.form;obtain⟨AX,hAX⟩:∃N,x.args.length=N:=⟨_,rfl⟩;rw [hAX] at x5;have hbdf:=hbdx;have HFS:Hid (Co.zG (l.take (j+1))=Co.zG (l.take j)++ [Co.fold x]):=zh (zEJ hx);have b3j:(j:Int)<(N:Int):=(by omega);have b0j:(0:Int)<=(j:Int):=(by omega);have C4:=CR;have HST4:=HST;have KI:=zh (HIH j x (.slice pa0 AX ca0) wr hx hbdx (by have:=hsl;rw [hAX] at this;exact this));unfold zK at KI;have q1:=zF (CR.b 1 rfl);clear hsl hx hbdx hbdf hAX HST CR;go_wp2_with fail;refine KI.mono ?_;rintro e w5 ⟨a',rfl,hbdy,hsy,hb5⟩;obtain⟨py,cy,rfl,_⟩:=hsy.form;obtain⟨y,hy⟩:∃q,Co.fold x=q:=⟨_,rfl⟩;rw [hy] at HFS hbdy hsy |-;obtain⟨AN,hAN⟩:∃N,y.args.length=N:=⟨_,rfl⟩;rw [hAN] at hsy |-;obtain⟨w6,HW6⟩:∃q,Hid (q=w5.alloc (.cells #[.int .i64 y.kind,.int .i64 y.op,.int .i64 y.int,.string y.name,.bool y.at_,.slice py AN cy] 37)):=⟨_,zh rfl⟩;obtain⟨h1,h2,h3,h4,h5,h6,h7⟩:=My.newE C4 HST4 hb5 hbdy hsy HW6;have C6:=zh h1;have HST6:=zh h2;have HSRC:=zh h3;have HNEW:=zh h4;have HONE:=zh h5;have HBS:=zh h6;have HLW:=zh h7;unfold zK;clear h1 h2 h3 h4 h5 h6 h7 hbdy hsy hb5 hAN hy KI C4 HST4 x0 x1 x2 x3 x4 x5;have HLEN:Hid (tr.length<=900000):=zh (by rw [HTL.out];omega);go_wp2_with (at_builtin;rw [<-HW6.out];refine zBK zBO zR rfl _ _ 35 rfl i0 (.agg #[.int .i64 0,.int .i64 0,.int .i64 0,.string ⟨#[]⟩,.bool false,.slice none 0 0]) 72 underlying35 hi0 hz0 hz1 hz2 rfl (by decide) _ _ rfl rfl HST6 HSRC HNEW HONE (by have:=HLEN.out;simp only [kI,kQ];unfold maxLen;omega) (by have:=HLEN.out;simp only [kI,kQ];omega) HBS ?_ HLW;intro v7 w7 hr7 hg7;obtain⟨p7,c7,rfl⟩:=own_form hr7.own;have C7:=zh (My.pushed C6 HST6 hg7);have HR7:=zh hr7;clear hr7 hg7);go_roundg (N -(j+1))
    case measure=>omega
    case rel=>exact ⟨j+1,by go_num,by omega,rfl,tr++ [(y,.slice py AN cy)],zh (by rw [List.map_append,HTR.out,HFS.out];rfl),C7,by rw [kN] at HR7;exact HR7⟩
   ·obtain rfl:j=N:=by omega
    have htr:=HTR.out;rw [kR (by rw [HN.out];exact kL _)] at htr;have hc9:=My.row CR HST;rw [htr] at hc9;have CZ:=zh hc9;clear htr hc9 CR HST HTR HIH HTL;have q1:=zF (CZ.b 1 rfl);obtain⟨w34,HW⟩:∃q,Hid (q=(wr.setCell ⟨E,5,none⟩ (.slice pq j cq))):=⟨_,zh rfl⟩;have C34:=zh ((CZ.set (W':=w34) 1 rfl (by rw [HW.out];exact zW wr E 5 (.slice pq j cq)) (by rw [HW.out];exact(heap_set (j:=5) (.slice pq j cq) (CZ.b 1 rfl)))).nrm (bs':= [(R,#[.int .i64 0,.int .i64 0,.int .i64 0,.string ⟨#[]⟩,.bool false,.slice none 0 0],37),(E,#[.int .i64 k,.int .i64 o,.int .i64 i,.string nm,.bool at_,.slice pq j cq],37)]) rfl);go_upto_region 7 with fail;rw [<-HW.out];clear HW CZ q1;by_cases hk:k=8\/k=9\/k=10
    ·rcases hk with h8|h9|h10
     ·subst h8;have hN1:j=1:=by
       have h9:=(Co.zN HV).2;unfold Tr.okE at h9;simp at h9;have h7:=HN.out;omega
      subst hN1;have HVF:Hid (Tr.zT (Co.zG l)=true):=zh (Co.zU l (Co.zN HV).1);obtain⟨y0,hy0⟩:∃y,(Co.zG l)[0]? =some y:=⟨_,kB (by rw [Co.zAG,HN.out];omega)⟩;obtain⟨b0,o0,ay0,he0,_,hcy0,hby0,hsy0⟩:=SlE.get (C34.rd 0 rfl) hy0;cases he0;obtain⟨s0_0,s0_1,s0_2,s0_3,s0_4,s0_5⟩:=hcy0;obtain⟨pb0,cb0,rfl,_⟩:=hsy0.form;obtain⟨NB0,hNB0⟩:∃q,y0.args.length=q:=⟨_,rfl⟩;have HK0:=zh (zDH y0 (.slice pb0 y0.args.length cb0) w34 hby0 hsy0 (h8_r HVF hy0));have HCB0:Hid (∀v,Co.const y0=some v-> -2305843009213693951<=v/\v<=2305843009213693951):=zh (fun v h=>Co.zCI (zH HVF hy0) h);have HE0:=zh hy0;rw [hNB0] at HK0 s0_5;unfold zK at HK0;simp only [Nat.zero_mul,Nat.add_zero] at s0_0 s0_1 s0_2 s0_3 s0_4 s0_5;clear hy0 hby0 hsy0 hNB0;have q1:=zF (C34.b 1 rfl);go_wp2_with fail;clear q1;refine HK0.mono ?_;rintro e w35 ⟨rfl,hb⟩;have C36:=zh (C34.below hb);clear C34;clear hb;clear s0_0 s0_1 s0_2 s0_3 s0_4 s0_5 HK0;cases hcn0:Co.const y0 with
      |none=>
       have HCN0:=zh hcn0;clear hcn0 HCB0;simp only [Option.getD_none,Option.isSome_none];have hxe:X= .mk 8 o i nm at_ (Co.zG l):=by
        rw [<-HX.out];rw [zAY (by omega) HE0.out,HCN0.out]
        try dsimp only
       subst hxe;have q1:=zF (C36.b 1 rfl);have q0:=zF (C36.b 0 rfl);go_wp2;exact My.retE C36 (a:= .slice (some ⟨b0,o0,none⟩) 1 cq) (x:= .mk 8 o i nm at_ (Co.zG l)) 0 rfl results43 rfl rfl HBD
      |some v0=>
       have HCN0:=zh hcn0;have hvb0:=HCB0 _ hcn0;clear hcn0 HCB0;simp only [Option.getD_some,Option.isSome_some];have hxe:X=Co.repl (.mk 8 o i nm at_ (Co.zG l)) (-v0):=by
        rw [<-HX.out];rw [zAY (by omega) HE0.out,HCN0.out]
        try dsimp only
        rw [kD rfl]
       have HXE:=zh hxe;clear hxe;have HQN:Hid (Q62p (-v0)):=zh ⟨by omega,by omega⟩;have hwn:wrap64 (-v0)= -v0:=by unfold wrap64;omega
       have q1:=zF (C36.b 1 rfl);have q0:=zF (C36.b 0 rfl);go_wp2_with fail;refine My.rp (zB2 (.mk 8 o i nm at_ (Co.zG l)) (-v0) (.slice (some ⟨b0,o0,none⟩) 1 cq) w35 HQN ⟨_,_,_,rfl⟩) C36 HBD HQN HXE ?_;rintro p9 YN c9 w38 C38 HBR;clear C36;have q0:=zF (C38.b 0 rfl);go_wp2;exact My.retE C38 (x:=X) (a:= .slice p9 YN c9) 0 rfl results43 rfl rfl HBR
     ·subst h9;have hN1:j=1:=by
       have h9:=(Co.zN HV).2;unfold Tr.okE at h9;simp at h9;have h7:=HN.out;omega
      subst hN1;have HVF:Hid (Tr.zT (Co.zG l)=true):=zh (Co.zU l (Co.zN HV).1);obtain⟨y0,hy0⟩:∃y,(Co.zG l)[0]? =some y:=⟨_,kB (by rw [Co.zAG,HN.out];omega)⟩;obtain⟨b0,o0,ay0,he0,_,hcy0,hby0,hsy0⟩:=SlE.get (C34.rd 0 rfl) hy0;cases he0;obtain⟨s0_0,s0_1,s0_2,s0_3,s0_4,s0_5⟩:=hcy0;obtain⟨pb0,cb0,rfl,_⟩:=hsy0.form;obtain⟨NB0,hNB0⟩:∃q,y0.args.length=q:=⟨_,rfl⟩;have HK0:=zh (zDH y0 (.slice pb0 y0.args.length cb0) w34 hby0 hsy0 (h8_r HVF hy0));have HCB0:Hid (∀v,Co.const y0=some v-> -2305843009213693951<=v/\v<=2305843009213693951):=zh (fun v h=>Co.zCI (zH HVF hy0) h);have HE0:=zh hy0;rw [hNB0] at HK0 s0_5;unfold zK at HK0;simp only [Nat.zero_mul,Nat.add_zero] at s0_0 s0_1 s0_2 s0_3 s0_4 s0_5;clear hy0 hby0 hsy0 hNB0;have q1:=zF (C34.b 1 rfl);go_wp2_with fail;clear q1;refine HK0.mono ?_;rintro e w39 ⟨rfl,hb⟩;have C40:=zh (C34.below hb);clear C34;clear hb;clear s0_0 s0_1 s0_2 s0_3 s0_4 s0_5 HK0;cases hcn0:Co.const y0 with
      |none=>
       have HCN0:=zh hcn0;clear hcn0 HCB0;simp only [Option.getD_none,Option.isSome_none];have hxe:X= .mk 9 o i nm at_ (Co.zG l):=by
        rw [<-HX.out];rw [zAY (by omega) HE0.out,HCN0.out]
        try dsimp only
       subst hxe;have q1:=zF (C40.b 1 rfl);have q0:=zF (C40.b 0 rfl);go_wp2;exact My.retE C40 (a:= .slice (some ⟨b0,o0,none⟩) 1 cq) (x:= .mk 9 o i nm at_ (Co.zG l)) 0 rfl results43 rfl rfl HBD
      |some v0=>
       have HCN0:=zh hcn0;have hvb0:=HCB0 _ hcn0;clear hcn0 HCB0;simp only [Option.getD_some,Option.isSome_some];have hxe:X=Co.repl (.mk 9 o i nm at_ (Co.zG l)) (Co.bit (v0 == 0)):=by
        rw [<-HX.out];rw [zAY (by omega) HE0.out,HCN0.out]
        try dsimp only
        rw [kC (by decide),kD rfl]
       have HXE:=zh hxe;clear hxe;have HQN:Hid (Q62p (Co.bit (v0 == 0))):=zh (zC1 _);have q1:=zF (C40.b 1 rfl);go_upto_region 15 with fail;clear q1;obtain⟨w41,HW,C41⟩:=C40.drewE;refine wp_region_held_drew (S:=X6 E (.int .i64 9) (.int .i64 o) (.int .i64 i) (.string nm) (.bool at_) (.slice (some ⟨b0,o0,none⟩) 1 cq)) (by kernel_rfl) (by rw [<-HW.out];exact(x6_of (C41.b 1 rfl))) (fun hH=>?_);rw [<-HW.out] at hH |-;clear HW C40;refine rU 0 (some 64) ?_;refine rU 1 (some 65) ?_;refine rU 3 (some 67) ?_;clear hH;refine rR1 2 (some 66) (fun K hK=>?_);go_simp;refine(zBP (v0 == 0) w41).mono ?_;rintro e w' ⟨rfl,hww⟩;rw [hww];clear hww w';go_wp2;refine hK _ _ (x6_of (C41.b 1 rfl)) (fun hH=>?_);clear hK K hH
       try simp only [Act.put,q0,q1,q2]
       refine rR1 4 (some 68) (fun K hK=>?_);go_simp;refine My.rp (zB2 (.mk 9 o i nm at_ (Co.zG l)) (Co.bit (v0 == 0)) (.slice (some ⟨b0,o0,none⟩) 1 cq) w41 HQN ⟨_,_,_,rfl⟩) C41 HBD HQN HXE ?_;rintro p9 YN c9 w42 C42 HBR;clear C41;go_wp2;refine hK _ _ (x6_of (C42.b 1 rfl)) (fun hH=>?_);clear hK K hH
       try simp only [Act.put,q0,q1,q2]
       refine rR1 5 none (fun K hK=>?_);have q0:=zF (C42.b 0 rfl);go_simp;refine hK _ _ (My.x6 C42) (fun hH=>?_);clear hK K hH
       try simp only [Act.put,q0,q1,q2]
       refine wpAnyH_done (by kernel_rfl) ?_ _;go_wp2;exact My.retE C42 (x:=X) (a:= .slice p9 YN c9) 0 rfl results43 rfl rfl HBR
     ·subst h10;have hN2:j=2:=by
       have h9:=(Co.zN HV).2;unfold Tr.okE at h9;simp at h9;have h7:=HN.out;omega
      subst hN2;have ho:=(Co.zSJ HV).2;have HVF:Hid (Tr.zT (Co.zG l)=true):=zh (Co.zU l (Co.zN HV).1);obtain⟨y0,hy0⟩:∃y,(Co.zG l)[0]? =some y:=⟨_,kB (by rw [Co.zAG,HN.out];omega)⟩;obtain⟨b0,o0,ay0,he0,_,hcy0,hby0,hsy0⟩:=SlE.get (C34.rd 0 rfl) hy0;cases he0;obtain⟨s0_0,s0_1,s0_2,s0_3,s0_4,s0_5⟩:=hcy0;obtain⟨pb0,cb0,rfl,_⟩:=hsy0.form;obtain⟨NB0,hNB0⟩:∃q,y0.args.length=q:=⟨_,rfl⟩;have HK0:=zh (zDH y0 (.slice pb0 y0.args.length cb0) w34 hby0 hsy0 (h8_r HVF hy0));have HCB0:Hid (∀v,Co.const y0=some v-> -2305843009213693951<=v/\v<=2305843009213693951):=zh (fun v h=>Co.zCI (zH HVF hy0) h);have HE0:=zh hy0;rw [hNB0] at HK0 s0_5;unfold zK at HK0;simp only [Nat.zero_mul,Nat.add_zero] at s0_0 s0_1 s0_2 s0_3 s0_4 s0_5;clear hy0 hby0 hsy0 hNB0;have q1:=zF (C34.b 1 rfl);go_wp2_with fail;clear q1;refine HK0.mono ?_;rintro e w43 ⟨rfl,hb⟩;have C44:=zh (C34.below hb);clear C34;clear hb;clear s0_0 s0_1 s0_2 s0_3 s0_4 s0_5 HK0;cases hcn0:Co.const y0 with
      |none=>
       have HCN0:=zh hcn0;clear hcn0 HCB0;simp only [Option.getD_none,Option.isSome_none];have hxe:X= .mk 10 o i nm at_ (Co.zG l):=by
        rw [<-HX.out];rw [zAY (by omega) HE0.out,HCN0.out]
        try dsimp only
       subst hxe;have q1:=zF (C44.b 1 rfl);have q0:=zF (C44.b 0 rfl);go_wp2;exact My.retE C44 (a:= .slice (some ⟨b0,o0,none⟩) 2 cq) (x:= .mk 10 o i nm at_ (Co.zG l)) 0 rfl results43 rfl rfl HBD
      |some v0=>
       have HCN0:=zh hcn0;have hvb0:=HCB0 _ hcn0;clear hcn0 HCB0;simp only [Option.getD_some,Option.isSome_some];obtain⟨y1,hy1⟩:∃y,(Co.zG l)[1]? =some y:=⟨_,kB (by rw [Co.zAG,HN.out];omega)⟩;obtain⟨b1,o1,ay1,he1,_,hcy1,hby1,hsy1⟩:=SlE.get (C44.rd 0 rfl) hy1;cases he1;obtain⟨s1_0,s1_1,s1_2,s1_3,s1_4,s1_5⟩:=hcy1;obtain⟨pb1,cb1,rfl,_⟩:=hsy1.form;obtain⟨NB1,hNB1⟩:∃q,y1.args.length=q:=⟨_,rfl⟩;have HK1:=zh (zDH y1 (.slice pb1 y1.args.length cb1) w43 hby1 hsy1 (h8_r HVF hy1));have HCB1:Hid (∀v,Co.const y1=some v-> -2305843009213693951<=v/\v<=2305843009213693951):=zh (fun v h=>Co.zCI (zH HVF hy1) h);have HE1:=zh hy1;rw [hNB1] at HK1 s1_5;unfold zK at HK1;simp only [Nat.one_mul] at s1_0 s1_1 s1_2 s1_3 s1_4 s1_5;clear hy1 hby1 hsy1 hNB1;have q1:=zF (C44.b 1 rfl);go_wp2_with fail;clear q1;refine HK1.mono ?_;rintro e w45 ⟨rfl,hb⟩;have C46:=zh (C44.below hb);clear C44;clear hb;clear s1_0 s1_1 s1_2 s1_3 s1_4 s1_5 HK1;cases hcn1:Co.const y1 with
       |none=>
        have HCN1:=zh hcn1;clear hcn1 HCB1;simp only [Option.getD_none,Option.isSome_none];by_cases h11:o=11
        ·subst h11;by_cases hv0:v0=0
         ·subst hv0;have hxe:X=Co.repl (.mk 10 11 i nm at_ (Co.zG l)) (Co.bit (false)):=by
           rw [<-HX.out];rw [zAY (by omega) HE0.out,HCN0.out]
           try dsimp only
           rw [kC (by decide),kC (by decide)];rw [kD ⟨rfl,rfl⟩]
           rfl
          have HXE:=zh hxe;clear hxe;have HQN:Hid (Q62p (Co.bit (false))):=zh (zC1 _);have q1:=zF (C46.b 1 rfl);go_upto_region 18 with fail;clear q1;obtain⟨w47,HW,C47⟩:=C46.drewE;refine wp_region_held_drew (S:=X6 E (.int .i64 10) (.int .i64 11) (.int .i64 i) (.string nm) (.bool at_) (.slice (some ⟨b0,o0,none⟩) 2 cq)) (by kernel_rfl) (by rw [<-HW.out];exact(x6_of (C47.b 1 rfl))) (fun hH=>?_);rw [<-HW.out] at hH |-;clear HW C46;refine rU 0 (some 92) ?_;refine rU 1 (some 93) ?_;refine rU 3 (some 95) ?_;clear hH;refine rR1 2 (some 94) (fun K hK=>?_);go_simp;refine(zBP (false) w47).mono ?_;rintro e w' ⟨rfl,hww⟩;rw [hww];clear hww w';go_wp2;refine hK _ _ (x6_of (C47.b 1 rfl)) (fun hH=>?_);clear hK K hH
          try simp only [Act.put,q0,q1,q2]
          refine rR1 4 (some 96) (fun K hK=>?_);go_simp;refine My.rp (zB2 (.mk 10 11 i nm at_ (Co.zG l)) (Co.bit (false)) (.slice (some ⟨b0,o0,none⟩) 2 cq) w47 HQN ⟨_,_,_,rfl⟩) C47 HBD HQN HXE ?_;rintro p9 YN c9 w48 C48 HBR;clear C47;go_wp2;refine hK _ _ (x6_of (C48.b 1 rfl)) (fun hH=>?_);clear hK K hH
          try simp only [Act.put,q0,q1,q2]
          refine rR1 5 none (fun K hK=>?_);have q0:=zF (C48.b 0 rfl);go_simp;refine hK _ _ (My.x6 C48) (fun hH=>?_);clear hK K hH
          try simp only [Act.put,q0,q1,q2]
          refine wpAnyH_done (by kernel_rfl) ?_ _;go_wp2;exact My.retE C48 (x:=X) (a:= .slice p9 YN c9) 0 rfl results43 rfl rfl HBR
         ·have hvb:(v0 == 0)=false:=kA.2 hv0;have hvn:(v0 != 0)=true:=bne_iff_ne.2 hv0;have hxe:X= .mk 10 11 i nm at_ (Co.zG l):=by
           rw [<-HX.out];rw [zAY (by omega) HE0.out,HCN0.out]
           try dsimp only
           rw [kC (by decide),kC (by decide)];rw [kC (by intro h;exact hv0 h.2),kC (by intro h;exact absurd h.1 (by decide))];rw [zB7 HE1.out,HCN1.out]
           try dsimp only
          subst hxe;have q1:=zF (C46.b 1 rfl);have q0:=zF (C46.b 0 rfl);go_wp2;exact My.retE C46 (a:= .slice (some ⟨b0,o0,none⟩) 2 cq) (x:= .mk 10 11 i nm at_ (Co.zG l)) 0 rfl results43 rfl rfl HBD
        ·by_cases h12:o=12
         ·subst h12;by_cases hv0:v0=0
          ·subst hv0;have hxe:X= .mk 10 12 i nm at_ (Co.zG l):=by
            rw [<-HX.out];rw [zAY (by omega) HE0.out,HCN0.out]
            try dsimp only
            rw [kC (by decide),kC (by decide)];rw [kC (by intro h;exact absurd h.1 (by decide)),kC (by intro h;exact h.2 rfl)];rw [zB7 HE1.out,HCN1.out]
            try dsimp only
           subst hxe;have q1:=zF (C46.b 1 rfl);have q0:=zF (C46.b 0 rfl);go_wp2;exact My.retE C46 (a:= .slice (some ⟨b0,o0,none⟩) 2 cq) (x:= .mk 10 12 i nm at_ (Co.zG l)) 0 rfl results43 rfl rfl HBD
          ·have hvb:(v0 == 0)=false:=kA.2 hv0;have hvn:(v0 != 0)=true:=bne_iff_ne.2 hv0;have hxe:X=Co.repl (.mk 10 12 i nm at_ (Co.zG l)) (Co.bit (true)):=by
            rw [<-HX.out];rw [zAY (by omega) HE0.out,HCN0.out]
            try dsimp only
            rw [kC (by decide),kC (by decide)];rw [kC (by intro h;exact absurd h.1 (by decide)),kD ⟨rfl,hv0⟩]
            rfl
           have HXE:=zh hxe;clear hxe;have HQN:Hid (Q62p (Co.bit (true))):=zh (zC1 _);have q1:=zF (C46.b 1 rfl);go_upto_region 18 with fail;clear q1;obtain⟨w49,HW,C49⟩:=C46.drewE;refine wp_region_held_drew (S:=X6 E (.int .i64 10) (.int .i64 12) (.int .i64 i) (.string nm) (.bool at_) (.slice (some ⟨b0,o0,none⟩) 2 cq)) (by kernel_rfl) (by rw [<-HW.out];exact(x6_of (C49.b 1 rfl))) (fun hH=>?_);rw [<-HW.out] at hH |-;clear HW C46;refine rU 0 (some 92) ?_;refine rU 1 (some 93) ?_;refine rU 3 (some 95) ?_;clear hH;refine rR1 2 (some 94) (fun K hK=>?_);go_simp;refine(zBP (true) w49).mono ?_;rintro e w' ⟨rfl,hww⟩;rw [hww];clear hww w';go_wp2;refine hK _ _ (x6_of (C49.b 1 rfl)) (fun hH=>?_);clear hK K hH
           try simp only [Act.put,q0,q1,q2]
           refine rR1 4 (some 96) (fun K hK=>?_);go_simp;refine My.rp (zB2 (.mk 10 12 i nm at_ (Co.zG l)) (Co.bit (true)) (.slice (some ⟨b0,o0,none⟩) 2 cq) w49 HQN ⟨_,_,_,rfl⟩) C49 HBD HQN HXE ?_;rintro p9 YN c9 w50 C50 HBR;clear C49;go_wp2;refine hK _ _ (x6_of (C50.b 1 rfl)) (fun hH=>?_);clear hK K hH
           try simp only [Act.put,q0,q1,q2]
           refine rR1 5 none (fun K hK=>?_);have q0:=zF (C50.b 0 rfl);go_simp;refine hK _ _ (My.x6 C50) (fun hH=>?_);clear hK K hH
           try simp only [Act.put,q0,q1,q2]
           refine wpAnyH_done (by kernel_rfl) ?_ _;go_wp2;exact My.retE C50 (x:=X) (a:= .slice p9 YN c9) 0 rfl results43 rfl rfl HBR
         ·have h11b:(o == 11)=false:=kA.2 h11;have h12b:(o == 12)=false:=kA.2 h12;have hxe:X= .mk 10 o i nm at_ (Co.zG l):=by
           rw [<-HX.out];rw [zAY (by omega) HE0.out,HCN0.out]
           try dsimp only
           rw [kC (by decide),kC (by decide)];rw [kC (by intro h;exact h11 h.1),kC (by intro h;exact h12 h.1)];rw [zB7 HE1.out,HCN1.out]
           try dsimp only
          subst hxe;have q1:=zF (C46.b 1 rfl);have q0:=zF (C46.b 0 rfl);go_wp2;exact My.retE C46 (a:= .slice (some ⟨b0,o0,none⟩) 2 cq) (x:= .mk 10 o i nm at_ (Co.zG l)) 0 rfl results43 rfl rfl HBD
       |some v1=>
        have HCN1:=zh hcn1;have hvb1:=HCB1 _ hcn1;clear hcn1 HCB1;simp only [Option.getD_some,Option.isSome_some];by_cases h11:o=11
        ·subst h11;by_cases hv0:v0=0
         ·subst hv0;have hxe:X=Co.repl (.mk 10 11 i nm at_ (Co.zG l)) (Co.bit (false)):=by
           rw [<-HX.out];rw [zAY (by omega) HE0.out,HCN0.out]
           try dsimp only
           rw [kC (by decide),kC (by decide)];rw [kD ⟨rfl,rfl⟩]
           rfl
          have HXE:=zh hxe;clear hxe;have HQN:Hid (Q62p (Co.bit (false))):=zh (zC1 _);have q1:=zF (C46.b 1 rfl);go_upto_region 18 with fail;clear q1;obtain⟨w51,HW,C51⟩:=C46.drewE;refine wp_region_held_drew (S:=X6 E (.int .i64 10) (.int .i64 11) (.int .i64 i) (.string nm) (.bool at_) (.slice (some ⟨b0,o0,none⟩) 2 cq)) (by kernel_rfl) (by rw [<-HW.out];exact(x6_of (C51.b 1 rfl))) (fun hH=>?_);rw [<-HW.out] at hH |-;clear HW C46;refine rU 0 (some 92) ?_;refine rU 1 (some 93) ?_;refine rU 3 (some 95) ?_;clear hH;refine rR1 2 (some 94) (fun K hK=>?_);go_simp;refine(zBP (false) w51).mono ?_;rintro e w' ⟨rfl,hww⟩;rw [hww];clear hww w';go_wp2;refine hK _ _ (x6_of (C51.b 1 rfl)) (fun hH=>?_);clear hK K hH
          try simp only [Act.put,q0,q1,q2]
          refine rR1 4 (some 96) (fun K hK=>?_);go_simp;refine My.rp (zB2 (.mk 10 11 i nm at_ (Co.zG l)) (Co.bit (false)) (.slice (some ⟨b0,o0,none⟩) 2 cq) w51 HQN ⟨_,_,_,rfl⟩) C51 HBD HQN HXE ?_;rintro p9 YN c9 w52 C52 HBR;clear C51;go_wp2;refine hK _ _ (x6_of (C52.b 1 rfl)) (fun hH=>?_);clear hK K hH
          try simp only [Act.put,q0,q1,q2]
          refine rR1 5 none (fun K hK=>?_);have q0:=zF (C52.b 0 rfl);go_simp;refine hK _ _ (My.x6 C52) (fun hH=>?_);clear hK K hH
          try simp only [Act.put,q0,q1,q2]
          refine wpAnyH_done (by kernel_rfl) ?_ _;go_wp2;exact My.retE C52 (x:=X) (a:= .slice p9 YN c9) 0 rfl results43 rfl rfl HBR
         ·have hvb:(v0 == 0)=false:=kA.2 hv0;have hvn:(v0 != 0)=true:=bne_iff_ne.2 hv0;have HI1:Hid (¬((11:Int)=11/\v0=0)):=zh (by omega);have HI2:Hid (¬((11:Int)=12/\v0≠0)):=zh (by omega);have hxe:X=Co.repl (.mk 10 11 i nm at_ (Co.zG l)) (Co.bit (v1 != 0)):=by
           rw [<-HX.out];rw [zAY (by omega) HE0.out,HCN0.out]
           try dsimp only
           rw [kC (by decide),kC (by decide)];rw [kC HI1.out,kC HI2.out];rw [zB7 HE1.out,HCN1.out]
           try dsimp only
           rw [kD (by decide)]
          have HXE:=zh hxe;clear hxe;have HQN:Hid (Q62p (Co.bit (v1 != 0))):=zh (zC1 _);have q1:=zF (C46.b 1 rfl);go_upto_region 22 with fail;clear q1;obtain⟨w53,HW,C53⟩:=C46.drewE;refine wp_region_held_drew (S:=X6 E (.int .i64 10) (.int .i64 11) (.int .i64 i) (.string nm) (.bool at_) (.slice (some ⟨b0,o0,none⟩) 2 cq)) (by kernel_rfl) (by rw [<-HW.out];exact(x6_of (C53.b 1 rfl))) (fun hH=>?_);rw [<-HW.out] at hH |-;clear HW C46;refine rU 0 (some 108) ?_;refine rU 1 (some 109) ?_;refine rU 3 (some 111) ?_;clear hH;refine rR1 2 (some 110) (fun K hK=>?_);go_simp;refine(zBP (v1 != 0) w53).mono ?_;rintro e w' ⟨rfl,hww⟩;rw [hww];clear hww w';go_wp2;refine hK _ _ (x6_of (C53.b 1 rfl)) (fun hH=>?_);clear hK K hH
          try simp only [Act.put,q0,q1,q2]
          refine rR1 4 (some 112) (fun K hK=>?_);go_simp;refine My.rp (zB2 (.mk 10 11 i nm at_ (Co.zG l)) (Co.bit (v1 != 0)) (.slice (some ⟨b0,o0,none⟩) 2 cq) w53 HQN ⟨_,_,_,rfl⟩) C53 HBD HQN HXE ?_;rintro p9 YN c9 w54 C54 HBR;clear C53;go_wp2;refine hK _ _ (x6_of (C54.b 1 rfl)) (fun hH=>?_);clear hK K hH
          try simp only [Act.put,q0,q1,q2]
          refine rR1 5 none (fun K hK=>?_);have q0:=zF (C54.b 0 rfl);go_simp;refine hK _ _ (My.x6 C54) (fun hH=>?_);clear hK K hH
          try simp only [Act.put,q0,q1,q2]
          refine wpAnyH_done (by kernel_rfl) ?_ _;go_wp2;exact My.retE C54 (x:=X) (a:= .slice p9 YN c9) 0 rfl results43 rfl rfl HBR
        ·by_cases h12:o=12
         ·subst h12;by_cases hv0:v0=0
          ·subst hv0;have HI1:Hid (¬((12:Int)=11/\(0:Int)=0)):=zh (by decide);have HI2:Hid (¬((12:Int)=12/\(0:Int)≠0)):=zh (by decide);have hxe:X=Co.repl (.mk 10 12 i nm at_ (Co.zG l)) (Co.bit (v1 != 0)):=by
            rw [<-HX.out];rw [zAY (by omega) HE0.out,HCN0.out]
            try dsimp only
            rw [kC (by decide),kC (by decide)];rw [kC HI1.out,kC HI2.out];rw [zB7 HE1.out,HCN1.out]
            try dsimp only
            rw [kD (by decide)]
           have HXE:=zh hxe;clear hxe;have HQN:Hid (Q62p (Co.bit (v1 != 0))):=zh (zC1 _);have q1:=zF (C46.b 1 rfl);go_upto_region 22 with fail;clear q1;obtain⟨w55,HW,C55⟩:=C46.drewE;refine wp_region_held_drew (S:=X6 E (.int .i64 10) (.int .i64 12) (.int .i64 i) (.string nm) (.bool at_) (.slice (some ⟨b0,o0,none⟩) 2 cq)) (by kernel_rfl) (by rw [<-HW.out];exact(x6_of (C55.b 1 rfl))) (fun hH=>?_);rw [<-HW.out] at hH |-;clear HW C46;refine rU 0 (some 108) ?_;refine rU 1 (some 109) ?_;refine rU 3 (some 111) ?_;clear hH;refine rR1 2 (some 110) (fun K hK=>?_);go_simp;refine(zBP (v1 != 0) w55).mono ?_;rintro e w' ⟨rfl,hww⟩;rw [hww];clear hww w';go_wp2;refine hK _ _ (x6_of (C55.b 1 rfl)) (fun hH=>?_);clear hK K hH
           try simp only [Act.put,q0,q1,q2]
           refine rR1 4 (some 112) (fun K hK=>?_);go_simp;refine My.rp (zB2 (.mk 10 12 i nm at_ (Co.zG l)) (Co.bit (v1 != 0)) (.slice (some ⟨b0,o0,none⟩) 2 cq) w55 HQN ⟨_,_,_,rfl⟩) C55 HBD HQN HXE ?_;rintro p9 YN c9 w56 C56 HBR;clear C55;go_wp2;refine hK _ _ (x6_of (C56.b 1 rfl)) (fun hH=>?_);clear hK K hH
           try simp only [Act.put,q0,q1,q2]
           refine rR1 5 none (fun K hK=>?_);have q0:=zF (C56.b 0 rfl);go_simp;refine hK _ _ (My.x6 C56) (fun hH=>?_);clear hK K hH
           try simp only [Act.put,q0,q1,q2]
           refine wpAnyH_done (by kernel_rfl) ?_ _;go_wp2;exact My.retE C56 (x:=X) (a:= .slice p9 YN c9) 0 rfl results43 rfl rfl HBR
          ·have hvb:(v0 == 0)=false:=kA.2 hv0;have hvn:(v0 != 0)=true:=bne_iff_ne.2 hv0;have hxe:X=Co.repl (.mk 10 12 i nm at_ (Co.zG l)) (Co.bit (true)):=by
            rw [<-HX.out];rw [zAY (by omega) HE0.out,HCN0.out]
            try dsimp only
            rw [kC (by decide),kC (by decide)];rw [kC (by intro h;exact absurd h.1 (by decide)),kD ⟨rfl,hv0⟩]
            rfl
           have HXE:=zh hxe;clear hxe;have HQN:Hid (Q62p (Co.bit (true))):=zh (zC1 _);have q1:=zF (C46.b 1 rfl);go_upto_region 18 with fail;clear q1;obtain⟨w57,HW,C57⟩:=C46.drewE;refine wp_region_held_drew (S:=X6 E (.int .i64 10) (.int .i64 12) (.int .i64 i) (.string nm) (.bool at_) (.slice (some ⟨b0,o0,none⟩) 2 cq)) (by kernel_rfl) (by rw [<-HW.out];exact(x6_of (C57.b 1 rfl))) (fun hH=>?_);rw [<-HW.out] at hH |-;clear HW C46;refine rU 0 (some 92) ?_;refine rU 1 (some 93) ?_;refine rU 3 (some 95) ?_;clear hH;refine rR1 2 (some 94) (fun K hK=>?_);go_simp;refine(zBP (true) w57).mono ?_;rintro e w' ⟨rfl,hww⟩;rw [hww];clear hww w';go_wp2;refine hK _ _ (x6_of (C57.b 1 rfl)) (fun hH=>?_);clear hK K hH
           try simp only [Act.put,q0,q1,q2]
           refine rR1 4 (some 96) (fun K hK=>?_);go_simp;refine My.rp (zB2 (.mk 10 12 i nm at_ (Co.zG l)) (Co.bit (true)) (.slice (some ⟨b0,o0,none⟩) 2 cq) w57 HQN ⟨_,_,_,rfl⟩) C57 HBD HQN HXE ?_;rintro p9 YN c9 w58 C58 HBR;clear C57;go_wp2;refine hK _ _ (x6_of (C58.b 1 rfl)) (fun hH=>?_);clear hK K hH
           try simp only [Act.put,q0,q1,q2]
           refine rR1 5 none (fun K hK=>?_);have q0:=zF (C58.b 0 rfl);go_simp;refine hK _ _ (My.x6 C58) (fun hH=>?_);clear hK K hH
           try simp only [Act.put,q0,q1,q2]
           refine wpAnyH_done (by kernel_rfl) ?_ _;go_wp2;exact My.retE C58 (x:=X) (a:= .slice p9 YN c9) 0 rfl results43 rfl rfl HBR
         ·have h11b:(o == 11)=false:=kA.2 h11;have h12b:(o == 12)=false:=kA.2 h12;have H1112:=zh (And.intro h11 h12);have HKC:=zh (zOX o v0 v1 ho.1 (by omega) ⟨by omega,by omega⟩ hvb0.1 ⟨by omega,by omega⟩ w45);have q1:=zF (C46.b 1 rfl);go_wp2_with fail;refine HKC.mono ?_;rintro e w59 ⟨rfl,hb⟩;have C60:=zh (C46.below hb);clear C46;clear hb HKC q1;have HCQ:Hid (∀n,Co.calcO o v0 v1=some n-> -2305843009213693952<=n/\n<=2305843009213693951):=zh (fun n h=>Co.zKR hvb0 h);cases hca:Co.calcO o v0 v1 with
          |none=>
           have hcalc:=zh hca;clear hca HCQ;simp only [Option.getD_none,Option.isSome_none];have hxe:X= .mk 10 o i nm at_ (Co.zG l):=by
            rw [<-HX.out];rw [zAY (by omega) HE0.out,HCN0.out]
            try dsimp only
            rw [kC (by decide),kC (by decide)];rw [kC (by intro h;exact H1112.1 h.1),kC (by intro h;exact H1112.2 h.1)];rw [zB7 HE1.out,HCN1.out]
            try dsimp only
            rw [kC (by intro h;rcases h with h|h;exact H1112.1 h;exact H1112.2 h),hcalc.out]
           subst hxe;have q1:=zF (C60.b 1 rfl);have q0:=zF (C60.b 0 rfl);go_wp2;exact My.retE C60 (a:= .slice (some ⟨b0,o0,none⟩) 2 cq) (x:= .mk 10 o i nm at_ (Co.zG l)) 0 rfl results43 rfl rfl HBD
          |some n=>
           have hcalc:=zh hca;have hnb:=HCQ _ hca;clear hca HCQ;simp only [Option.getD_some,Option.isSome_some];have hxe:X=Co.repl (.mk 10 o i nm at_ (Co.zG l)) (n):=by
            rw [<-HX.out];rw [zAY (by omega) HE0.out,HCN0.out]
            try dsimp only
            rw [kC (by decide),kC (by decide)];rw [kC (by intro h;exact H1112.1 h.1),kC (by intro h;exact H1112.2 h.1)];rw [zB7 HE1.out,HCN1.out]
            try dsimp only
            rw [kC (by intro h;rcases h with h|h;exact H1112.1 h;exact H1112.2 h),hcalc.out]
           have HXE:=zh hxe;clear hxe;have HQN:Hid (Q62p (n)):=zh hnb;have q1:=zF (C60.b 1 rfl);have q0:=zF (C60.b 0 rfl);go_wp2_with fail;refine My.rp (zB2 (.mk 10 o i nm at_ (Co.zG l)) (n) (.slice (some ⟨b0,o0,none⟩) 2 cq) w59 HQN ⟨_,_,_,rfl⟩) C60 HBD HQN HXE ?_;rintro p9 YN c9 w62 C62 HBR;clear C60;have q0:=zF (C62.b 0 rfl);go_wp2;exact My.retE C62 (x:=X) (a:= .slice p9 YN c9) 0 rfl results43 rfl rfl HBR
    ·have h8:(k != 8)=true:=bne_iff_ne.2 (by omega);have h9:(k != 9)=true:=bne_iff_ne.2 (by omega);have h10:(k != 10)=true:=bne_iff_ne.2 (by omega);have hxe:X= .mk k o i nm at_ (Co.zG l):=by
      rw [<-HX.out];unfold Co.top;dsimp only;rw [kC hk]
     subst hxe;have q1:=zF (C34.b 1 rfl);have q0:=zF (C34.b 0 rfl);go_wp2;exact My.retE C34 (a:= .slice pq j cq) (x:= .mk k o i nm at_ (Co.zG l)) 0 rfl results43 rfl rfl HBD
end Cw
end Go.Proofs.YtcnmfcgmnkncaaaGreatDoor
