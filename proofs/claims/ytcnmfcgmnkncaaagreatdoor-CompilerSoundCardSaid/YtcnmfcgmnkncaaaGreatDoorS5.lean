/-
  CompilerSound, walked.
-/
import Derived.Test.YtcnmfcgmnkncaaaGreatDoorS4
namespace Go.Proofs.YtcnmfcgmnkncaaaGreatDoor
namespace Cw
open Go.RowKit Go.Maps Pw
set_option maxRecDepth 100000 in
set_option maxHeartbeats 40000000 in
theorem zU9 (cs:List Tr.C) (v:Value) (w:World) (hE:CoEnv w) (hp:SlC w v cs):
 Calls Tryz.prog 9 #[.agg #[v]] w fun r w'=>r= .returned (.bool true)∧Below w.heap.size w w':=by
 have hp0:=hp
 obtain⟨pp,cp,rfl,hcl,_⟩:=hp
 obtain⟨CN,hCN⟩:∃q,cs.length=q:=⟨_,rfl⟩
 rw [hCN] at hp0 hcl ⊢
 have HE:=zh hE
 have HCN:=zh hCN
 have C0:=zh (Mo.add (Mo.start w) (r:=RC (.slice pp CN cp) cs) rc_mn hp0)
 clear hp0 hE hCN hcl
 obtain⟨P,w1,HX,HW,hx1,C1⟩:=C0.out.boxE #[.slice pp CN cp] 24
 go_enter Tryz.func9,Tryz.ntmps9
 go_upto_region 1 with fail
 rw [←HX.out,←HW.out]
 clear HX HW C0
 have C2:=zh (Mz.foldA1 C1.out)
 clear C1
 go_wp2_with fail
 have hk:=zLW w1 (HE.out.keep C2.out.gr.fresh)
 refine hk.mono ?_
 clear hk
 rintro e w3 ⟨rfl,hb9⟩
 have C3:=zh (Mz.below C2.out hb9)
 clear hb9 C2
 cases hf:Tr.fewP cs 150
 ·have qP:w3.cell? ⟨P,0,none⟩=some (.slice pp CN cp):=(C3.out.rd 0 rfl)
  go_wp2_with fail
  clear qP
  have hk:=zVB (.slice pp CN cp) cs 150 w3 (C3.out.rd 1 rfl) (by decide) (by decide)
  rw [hf] at hk
  refine hk.mono ?_
  clear hk
  rintro e w4 ⟨rfl,hb9⟩
  have C4:=zh (Mz.below C3.out hb9)
  clear hb9 C3
  go_wp2_with fail
  go_ret
  exact⟨rfl,C4.out.gr.fresh⟩
 ·have qP:w3.cell? ⟨P,0,none⟩=some (.slice pp CN cp):=(C3.out.rd 0 rfl)
  go_wp2_with fail
  clear qP
  have hk:=zVB (.slice pp CN cp) cs 150 w3 (C3.out.rd 1 rfl) (by decide) (by decide)
  rw [hf] at hk
  refine hk.mono ?_
  clear hk
  rintro e w5 ⟨rfl,hb9⟩
  have C5:=zh (Mz.below C3.out hb9)
  clear hb9 C3
  have HSM:=zh (Ck.zL3 hf (by decide))
  have HFIT:=zh (Tr.zQO hf (by decide))
  have HSZ:=zh (Co.zS6 hf (by decide))
  clear hf
  have qP:w5.cell? ⟨P,0,none⟩=some (.slice pp CN cp):=(C5.out.rd 0 rfl)
  go_wp2_with fail
  clear qP
  refine(zIB (C5.out.rd 1 rfl) (HE.out.keep C5.out.gr.fresh) HSM.out HFIT.out HSZ.out).mono ?_
  rintro e w6 ⟨hb9,v9,hpp⟩
  rcases hpp with ⟨hck,l,hl,rfl,hs9⟩|⟨rfl,n,rfl,hbad⟩
  ·obtain⟨hln,h60,h30,hsn⟩:=zVF hck hl
   have hs8:=hs9
   obtain⟨po,co,rfl,hcl,_⟩:=hs8
   rw [hln,HCN.out] at hs9 ⊢
   rw [HCN.out] at h60 hln
   have C6:=zh (Mz.add C5.out hb9 (r:=RCc (.slice po CN co) l) rcc_mn hs9)
   have HSN:=zh hsn
   have HLN:=zh hln
   have H30:=zh h30
   have HCL:Hid (CN≤60):=zh h60
   clear hb9 hs9 C5 hck hl hsn hcl hln h30 h60
   obtain⟨C,w7,HX,HW,hx7,C7⟩:=C6.out.boxE #[.slice po CN co] 29
   go_upto_region 6 with fail
   rw [←HX.out,←HW.out]
   clear HX HW C6
   have C8:=zh (Mz.foldA1 C7.out)
   clear C7
   have qP:w7.cell? ⟨P,0,none⟩=some (.slice pp CN cp):=(C8.out.rd 2 rfl)
   have qC:w7.cell? ⟨C,0,none⟩=some (.slice po CN co):=(C8.out.rd 0 rfl)
   go_wp2_with fail
   clear qP qC
   go_loopg [5] CN (fun gg s5 wr=>∃i:Nat,s5= .int .i64 i∧i≤CN∧gg=CN -i∧Hid (Mz 0 0 w [] (fun _=>True) [] [] [A1 C (.slice po CN co),RCc (.slice po CN co) l,A1 P (.slice pp CN cp),RC (.slice pp CN cp) cs] wr))
   case atStart=>exact ⟨0,rfl,Nat.zero_le _,rfl,C8⟩
   case round=>
    clear C8
    obtain⟨i,rfl,hi,rfl,CR⟩:=hrel
    have hcl:=HCL.out
    by_cases hlt:i<CN
    ·obtain⟨w_,hw_⟩:∃q,q=wr:=⟨_,rfl⟩
     rw [←hw_] at CR ⊢
     clear hw_
     obtain⟨x,hx⟩:∃x,l[i]? =some x:=⟨_,List.getElem?_eq_getElem (by rw [HLN.out];exact hlt)⟩
     obtain⟨c,hc,hsn⟩:=HSN.out i x hx
     obtain⟨b2,o2,pg,FN,cg,pk,MN,ck,hp2,hb2,hn3,hn4,CB⟩:=Mo.cc CR.out 1 rfl hx
     subst hp2
     rw [hsn.fields] at hn3
     rw [hsn.len] at hn4
     have HC:=zh hc
     have HSC:=zh hsn
     have HFN:=zh hn3
     have HMB:Hid (MN≤1000000):=zh (by have h9:=(HSM.out.all c (List.mem_of_getElem? hc)).mths;rw [←hn4] at h9;exact h9)
     have HMN:Hid (x.methods.length=MN):=zh (by rw [hsn.len];exact hn4.symm)
     have HF3:Hid (FN≤30):=zh (by rw [hn3];exact H30.out c (List.mem_of_getElem? hc))
     clear hc hx hsn hn3 hn4 CR hb2
     have qC:w_.cell? ⟨C,0,none⟩=some (.slice (some ⟨b2,o2,none⟩) CN co):=(CB.out.rd 3 rfl)
     go_wp2_with fail
     clear qC
     have HLT:=zh hlt
     clear hlt hi
     go_loopg [6] MN (fun gg s6 wr=>∃k:Nat,s6= .int .i64 k∧k≤MN∧gg=MN -k∧Hid (Mz 0 0 w [] (fun _=>True) [] [] [B4 b2 (o2+i*4) (.string x.name) (.bool x.actor) (.slice pg FN cg) (.slice pk MN ck),RN (.slice pg FN cg) x.fields,RMm (.slice pk MN ck) x.methods,A1 C (.slice (some ⟨b2,o2,none⟩) CN co),RCc (.slice (some ⟨b2,o2,none⟩) CN co) l,A1 P (.slice pp CN cp),RC (.slice pp CN cp) cs] wr))
     case atStart=>exact ⟨0,rfl,Nat.zero_le _,rfl,CB⟩
     case round=>
      clear CB
      obtain⟨k,rfl,hk,rfl,CI⟩:=hrel
      have hcl:=HCL.out
      have hlt:=HLT.out
      have hi0:(0:Int)≤(i:Int):=by omega
      have hi1:(i:Int)<(CN:Int):=by omega
      have hmb:=HMB.out
      by_cases hlk:k<MN
      ·obtain⟨wm,hw0⟩:∃q,q=wr:=⟨_,rfl⟩
       rw [←hw0] at CI ⊢
       clear hw0
       obtain⟨y,hy⟩:∃y,x.methods[k]? =some y:=⟨_,List.getElem?_eq_getElem (by rw [HMN.out];exact hlk)⟩
       have hsm:=HSC.out.all k y hy
       obtain⟨b4,o4,pi,IN,ci,pn,NN,cn,hp4,hb4,hn6,hn7,hin,hnn,CB⟩:=Mo.cm CI.out 2 rfl hy
       subst hp4
       obtain⟨D,gg_,hG,eg1,eg2,eg3⟩:=hsm.good
       have h8:=hsm.par
       have h9:=hsm.vd
       have h10:=hsm.len
       have h11:=hsm.loc
       have h12:=hsm.nam
       rw [←eg1] at h9 h10 hn6 CB
       rw [←eg2] at h12 hn7 CB
       rw [←eg3] at h8 h11 CB
       obtain⟨LO,hLO⟩:∃q,gg_.locals=q:=⟨_,rfl⟩
       obtain⟨PA,hPA⟩:∃q,y.params=q:=⟨_,rfl⟩
       rw [hLO] at h8 h11 CB
       rw [hPA] at h8 CB
       rw [←hn6] at h10
       rw [←hn7] at h12
       have hlast:=hG.last
       rw [←hn6] at hlast
       obtain⟨IM,hIM⟩:∃q,IN -1=q:=⟨_,rfl⟩
       rw [hIM] at hlast
       have hI1:0<IN:=by have:=(List.getElem?_eq_some_iff.1 hlast).1;omega
       obtain⟨b5,o5,hp5,_,_,_,_⟩:=SlI.get (CB.out.rd 1 rfl) hlast
       subst hp5
       have HG:=zh hG
       have HVD:=zh h9
       have HPL:Hid (PA≤LO∧LO≤30∧NN≤1024∧IN≤4000∧0<IN∧IN -1=IM):=zh ⟨h8,h11,h12,h10,hI1,hIM⟩
       have HIN:=zh hn6
       have HLO:=zh hLO
       have HNN:=zh hn7
       have HLA:=zh hlast
       clear hy hsm hG eg1 eg2 eg3 h8 h9 h10 h11 h12 hLO hPA hn6 hn7 hin hnn hlast hIM hI1 CI hb4
       have hk0:(0:Int)≤(k:Int):=by omega
       have hk1:(k:Int)<(MN:Int):=by omega
       have qC:wm.cell? ⟨C,0,none⟩=some (.slice (some ⟨b2,o2,none⟩) CN co):=(CB.out.rd 6 rfl)
       have qCK:wm.cell? ⟨b2,o2+i*4,none⟩=some (.string x.name)∧wm.cell? ⟨b2,o2+i*4+1,none⟩=some (.bool x.actor)∧wm.cell? ⟨b2,o2+i*4+2,none⟩=some (.slice pg FN cg)∧wm.cell? ⟨b2,o2+i*4+3,none⟩=some (.slice (some ⟨b4,o4,none⟩) MN ck):=(CB.out.rd 3 rfl)
       have qCE:wm.cell? ⟨b4,o4+k*5,none⟩=some (.string y.name)∧wm.cell? ⟨b4,o4+k*5+1,none⟩=some (.int .i64 PA)∧wm.cell? ⟨b4,o4+k*5+2,none⟩=some (.int .i64 LO)∧wm.cell? ⟨b4,o4+k*5+3,none⟩=some (.slice (some ⟨b5,o5,none⟩) IN ci)∧wm.cell? ⟨b4,o4+k*5+4,none⟩=some (.slice pn NN cn):=(CB.out.rd 0 rfl)
       obtain⟨M,w9,HX,HW,hx9,C9⟩:=CB.out.boxE #[.string y.name,.int .i64 PA,.int .i64 LO,.slice (some ⟨b5,o5,none⟩) IN ci,.slice pn NN cn] 59
       go_upto_region 15 with fail
       rw [←HX.out,←HW.out]
       clear HX HW CB qC qCK qCE
       have C10:=zh (Mz.foldA5 C9.out)
       clear C9
       have qM:w9.cell? ⟨M,0,none⟩=some (.string y.name)∧w9.cell? ⟨M,1,none⟩=some (.int .i64 PA)∧w9.cell? ⟨M,2,none⟩=some (.int .i64 LO)∧w9.cell? ⟨M,3,none⟩=some (.slice (some ⟨b5,o5,none⟩) IN ci)∧w9.cell? ⟨M,4,none⟩=some (.slice pn NN cn):=(C10.out.rd 0 rfl)
       go_wp2_with fail
       clear qM
       have hk:=zU4 HG.out HVD.out (by rw [←HIN.out];exact HPL.out.2.2.2.1) y.name PA LO (.slice (some ⟨b5,o5,none⟩) IN ci) (.slice pn NN cn) w9 (C10.out.rd 2 rfl) ⟨_,_,_,rfl⟩
       refine hk.mono ?_
       clear hk
       rintro e w11 ⟨rfl,hb9⟩
       have C11:=zh (Mz.below C10.out hb9)
       clear hb9 C10
       obtain⟨b6,o6,hp6,_,hz0,_,_⟩:=SlI.get (C11.out.rd 2 rfl) HLA.out
       injection hp6 with e7
       injection e7 with e7 e8
       subst e7 e8
       dsimp only at hz0
       have hpl:=HPL.out
       have hm0:(0:Int)≤(IM:Int):=by omega
       have hm1:(IM:Int)<(IN:Int):=by omega
       have hm2:IntKind.i64.wrap ((IN:Int) - 1)=(IM:Int):=by rw [IntKind.wrap_i64];omega
       have hm3:¬LO<PA:=by omega
       have qM:w11.cell? ⟨M,0,none⟩=some (.string y.name)∧w11.cell? ⟨M,1,none⟩=some (.int .i64 PA)∧w11.cell? ⟨M,2,none⟩=some (.int .i64 LO)∧w11.cell? ⟨M,3,none⟩=some (.slice (some ⟨b5,o5,none⟩) IN ci)∧w11.cell? ⟨M,4,none⟩=some (.slice pn NN cn):=(C11.out.rd 0 rfl)
       go_wp2_with fail
       clear qM
       clear hz0 hm0 hm1 hm2 hm3 hpl
       have HLK:=zh hlk
       clear hlk hk
       go_loopg [8] IN (fun gg s8 wr=>∃n:Nat,s8= .int .i64 n∧n≤IN∧gg=IN -n∧Hid (Mz 0 0 w [] (fun _=>True) [] [] [A5 M (.string y.name) (.int .i64 PA) (.int .i64 LO) (.slice (some ⟨b5,o5,none⟩) IN ci) (.slice pn NN cn),B5 b4 (o4+k*5) (.string y.name) (.int .i64 PA) (.int .i64 LO) (.slice (some ⟨b5,o5,none⟩) IN ci) (.slice pn NN cn),RI (.slice (some ⟨b5,o5,none⟩) IN ci) gg_.code,RN (.slice pn NN cn) gg_.names,B4 b2 (o2+i*4) (.string x.name) (.bool x.actor) (.slice pg FN cg) (.slice (some ⟨b4,o4,none⟩) MN ck),RN (.slice pg FN cg) x.fields,RMm (.slice (some ⟨b4,o4,none⟩) MN ck) x.methods,A1 C (.slice (some ⟨b2,o2,none⟩) CN co),RCc (.slice (some ⟨b2,o2,none⟩) CN co) l,A1 P (.slice pp CN cp),RC (.slice pp CN cp) cs] wr))
       case atStart=>exact ⟨0,rfl,Nat.zero_le _,rfl,C11⟩
       case round=>
        clear C11
        obtain⟨n,rfl,hn,rfl,CJ⟩:=hrel
        have hpl:=HPL.out
        by_cases hln:n<IN
        ·obtain⟨wj,hw0⟩:∃q,q=wr:=⟨_,rfl⟩
         rw [←hw0] at CJ ⊢
         clear hw0
         obtain⟨z,hz⟩:∃z,gg_.code[n]? =some z:=⟨_,List.getElem?_eq_getElem (by rw [←HIN.out];exact hln)⟩
         obtain⟨xo,xa,xb⟩:=z
         have hfl:=zVA (HG.out.ins n _ hz) (by rw [←HIN.out];omega)
         obtain⟨b7,o7,hp7,_,hi0_,hi1_,hi2_⟩:=SlI.get (CJ.out.rd 2 rfl) hz
         injection hp7 with e7
         injection e7 with e7 e8
         subst e7 e8
         dsimp only at hi0_ hi1_ hi2_
         have HFL:=zh hfl
         clear hfl hz
         have hn0:(0:Int)≤(n:Int):=by omega
         have hn1:(n:Int)<(IN:Int):=by omega
         have qM:wj.cell? ⟨M,0,none⟩=some (.string y.name)∧wj.cell? ⟨M,1,none⟩=some (.int .i64 PA)∧wj.cell? ⟨M,2,none⟩=some (.int .i64 LO)∧wj.cell? ⟨M,3,none⟩=some (.slice (some ⟨b5,o5,none⟩) IN ci)∧wj.cell? ⟨M,4,none⟩=some (.slice pn NN cn):=(CJ.out.rd 0 rfl)
         obtain⟨I,w12,HX,HW,hx12,C12⟩:=CJ.out.boxE #[.int .i64 xo,.int .i64 xa,.int .i64 xb] 65
         go_upto_region 22 with fail
         rw [←HX.out,←HW.out]
         clear HX HW CJ qM
         have C13:=zh (Mz.foldA3 C12.out)
         clear C12
         clear hi0_ hi1_ hi2_
         obtain⟨na,hna,hf3,hf6,hf7,hf10,hf0⟩:=HFL.out
         by_cases ho:xo=3
         ·subst ho
          obtain rfl:xa=(na:Int):=hna.resolve_left (by decide)
          have hg0:¬(na:Int)<0:=by omega
          have hg1:¬(LO:Int)≤(na:Int):=by have:=hf3 (by decide);rw [HLO.out] at this;omega
          have qI:w12.cell? ⟨I,0,none⟩=some (.int .i64 3)∧w12.cell? ⟨I,1,none⟩=some (.int .i64 (na:Int))∧w12.cell? ⟨I,2,none⟩=some (.int .i64 xb):=(C13.out.rd 0 rfl)
          have qM:w12.cell? ⟨M,0,none⟩=some (.string y.name)∧w12.cell? ⟨M,1,none⟩=some (.int .i64 PA)∧w12.cell? ⟨M,2,none⟩=some (.int .i64 LO)∧w12.cell? ⟨M,3,none⟩=some (.slice (some ⟨b5,o5,none⟩) IN ci)∧w12.cell? ⟨M,4,none⟩=some (.slice pn NN cn):=(C13.out.rd 1 rfl)
          go_wp2_with fail
          clear qI qM
          go_roundg (IN -(n+1))
          case measure=>omega
          case rel=>exact ⟨n+1,by go_num,by omega,rfl,zh (C13.out.ot)⟩
         have h3:(xo == 3)=false:=beq_eq_false_iff_ne.2 ho
         have hq3:=zh ho
         clear ho
         by_cases ho:xo=4
         ·subst ho
          obtain rfl:xa=(na:Int):=hna.resolve_left (by decide)
          have hg0:¬(na:Int)<0:=by omega
          have hg1:¬(LO:Int)≤(na:Int):=by have:=hf3 (by decide);rw [HLO.out] at this;omega
          have qI:w12.cell? ⟨I,0,none⟩=some (.int .i64 4)∧w12.cell? ⟨I,1,none⟩=some (.int .i64 (na:Int))∧w12.cell? ⟨I,2,none⟩=some (.int .i64 xb):=(C13.out.rd 0 rfl)
          have qM:w12.cell? ⟨M,0,none⟩=some (.string y.name)∧w12.cell? ⟨M,1,none⟩=some (.int .i64 PA)∧w12.cell? ⟨M,2,none⟩=some (.int .i64 LO)∧w12.cell? ⟨M,3,none⟩=some (.slice (some ⟨b5,o5,none⟩) IN ci)∧w12.cell? ⟨M,4,none⟩=some (.slice pn NN cn):=(C13.out.rd 1 rfl)
          go_wp2_with fail
          clear qI qM
          go_roundg (IN -(n+1))
          case measure=>omega
          case rel=>exact ⟨n+1,by go_num,by omega,rfl,zh (C13.out.ot)⟩
         have h4:(xo == 4)=false:=beq_eq_false_iff_ne.2 ho
         have hq4:=zh ho
         clear ho
         by_cases ho:xo=6
         ·subst ho
          obtain rfl:xa=(na:Int):=hna.resolve_left (by decide)
          have hg0:¬(na:Int)<0:=by omega
          have hg1:¬(NN:Int)≤(na:Int):=by have:=hf6 (by decide);rw [←HNN.out] at this;omega
          have qI:w12.cell? ⟨I,0,none⟩=some (.int .i64 6)∧w12.cell? ⟨I,1,none⟩=some (.int .i64 (na:Int))∧w12.cell? ⟨I,2,none⟩=some (.int .i64 xb):=(C13.out.rd 0 rfl)
          have qM:w12.cell? ⟨M,0,none⟩=some (.string y.name)∧w12.cell? ⟨M,1,none⟩=some (.int .i64 PA)∧w12.cell? ⟨M,2,none⟩=some (.int .i64 LO)∧w12.cell? ⟨M,3,none⟩=some (.slice (some ⟨b5,o5,none⟩) IN ci)∧w12.cell? ⟨M,4,none⟩=some (.slice pn NN cn):=(C13.out.rd 1 rfl)
          go_wp2_with fail
          clear qI qM
          go_roundg (IN -(n+1))
          case measure=>omega
          case rel=>exact ⟨n+1,by go_num,by omega,rfl,zh (C13.out.ot)⟩
         have h6:(xo == 6)=false:=beq_eq_false_iff_ne.2 ho
         have hq6:=zh ho
         clear ho
         by_cases ho:xo=8
         ·subst ho
          obtain rfl:xa=(na:Int):=hna.resolve_left (by decide)
          have hg0:¬(na:Int)<0:=by omega
          have hg1:¬(NN:Int)≤(na:Int):=by have:=hf6 (by decide);rw [←HNN.out] at this;omega
          have qI:w12.cell? ⟨I,0,none⟩=some (.int .i64 8)∧w12.cell? ⟨I,1,none⟩=some (.int .i64 (na:Int))∧w12.cell? ⟨I,2,none⟩=some (.int .i64 xb):=(C13.out.rd 0 rfl)
          have qM:w12.cell? ⟨M,0,none⟩=some (.string y.name)∧w12.cell? ⟨M,1,none⟩=some (.int .i64 PA)∧w12.cell? ⟨M,2,none⟩=some (.int .i64 LO)∧w12.cell? ⟨M,3,none⟩=some (.slice (some ⟨b5,o5,none⟩) IN ci)∧w12.cell? ⟨M,4,none⟩=some (.slice pn NN cn):=(C13.out.rd 1 rfl)
          go_wp2_with fail
          clear qI qM
          go_roundg (IN -(n+1))
          case measure=>omega
          case rel=>exact ⟨n+1,by go_num,by omega,rfl,zh (C13.out.ot)⟩
         have h8:(xo == 8)=false:=beq_eq_false_iff_ne.2 ho
         have hq8:=zh ho
         clear ho
         by_cases ho:xo=21
         ·subst ho
          obtain rfl:xa=(na:Int):=hna.resolve_left (by decide)
          have hg0:¬(na:Int)<0:=by omega
          have hg1:¬(NN:Int)≤(na:Int):=by have:=hf6 (by decide);rw [←HNN.out] at this;omega
          have qI:w12.cell? ⟨I,0,none⟩=some (.int .i64 21)∧w12.cell? ⟨I,1,none⟩=some (.int .i64 (na:Int))∧w12.cell? ⟨I,2,none⟩=some (.int .i64 xb):=(C13.out.rd 0 rfl)
          have qM:w12.cell? ⟨M,0,none⟩=some (.string y.name)∧w12.cell? ⟨M,1,none⟩=some (.int .i64 PA)∧w12.cell? ⟨M,2,none⟩=some (.int .i64 LO)∧w12.cell? ⟨M,3,none⟩=some (.slice (some ⟨b5,o5,none⟩) IN ci)∧w12.cell? ⟨M,4,none⟩=some (.slice pn NN cn):=(C13.out.rd 1 rfl)
          go_wp2_with fail
          clear qI qM
          go_roundg (IN -(n+1))
          case measure=>omega
          case rel=>exact ⟨n+1,by go_num,by omega,rfl,zh (C13.out.ot)⟩
         have h21:(xo == 21)=false:=beq_eq_false_iff_ne.2 ho
         have hq21:=zh ho
         clear ho
         by_cases ho:xo=24
         ·subst ho
          obtain rfl:xa=(na:Int):=hna.resolve_left (by decide)
          have hg0:¬(na:Int)<0:=by omega
          have hg1:¬(NN:Int)≤(na:Int):=by have:=hf6 (by decide);rw [←HNN.out] at this;omega
          have qI:w12.cell? ⟨I,0,none⟩=some (.int .i64 24)∧w12.cell? ⟨I,1,none⟩=some (.int .i64 (na:Int))∧w12.cell? ⟨I,2,none⟩=some (.int .i64 xb):=(C13.out.rd 0 rfl)
          have qM:w12.cell? ⟨M,0,none⟩=some (.string y.name)∧w12.cell? ⟨M,1,none⟩=some (.int .i64 PA)∧w12.cell? ⟨M,2,none⟩=some (.int .i64 LO)∧w12.cell? ⟨M,3,none⟩=some (.slice (some ⟨b5,o5,none⟩) IN ci)∧w12.cell? ⟨M,4,none⟩=some (.slice pn NN cn):=(C13.out.rd 1 rfl)
          go_wp2_with fail
          clear qI qM
          go_roundg (IN -(n+1))
          case measure=>omega
          case rel=>exact ⟨n+1,by go_num,by omega,rfl,zh (C13.out.ot)⟩
         have h24:(xo == 24)=false:=beq_eq_false_iff_ne.2 ho
         have hq24:=zh ho
         clear ho
         by_cases ho:xo=7
         ·subst ho
          obtain rfl:xa=(na:Int):=hna.resolve_left (by decide)
          have hg0:¬(na:Int)<0:=by omega
          have hlt:=HLT.out
          have hi0:(0:Int)≤(i:Int):=by omega
          have hi1:(i:Int)<(CN:Int):=by omega
          have hg1:¬(FN:Int)≤(na:Int):=by have:=hf7 (by decide);rw [←HFN.out] at this;omega
          have qI:w12.cell? ⟨I,0,none⟩=some (.int .i64 7)∧w12.cell? ⟨I,1,none⟩=some (.int .i64 (na:Int))∧w12.cell? ⟨I,2,none⟩=some (.int .i64 xb):=(C13.out.rd 0 rfl)
          have qC:w12.cell? ⟨C,0,none⟩=some (.slice (some ⟨b2,o2,none⟩) CN co):=(C13.out.rd 8 rfl)
          have qCK:w12.cell? ⟨b2,o2+i*4,none⟩=some (.string x.name)∧w12.cell? ⟨b2,o2+i*4+1,none⟩=some (.bool x.actor)∧w12.cell? ⟨b2,o2+i*4+2,none⟩=some (.slice pg FN cg)∧w12.cell? ⟨b2,o2+i*4+3,none⟩=some (.slice (some ⟨b4,o4,none⟩) MN ck):=(C13.out.rd 5 rfl)
          go_wp2_with fail
          clear qI qC qCK
          go_roundg (IN -(n+1))
          case measure=>omega
          case rel=>exact ⟨n+1,by go_num,by omega,rfl,zh (C13.out.ot)⟩
         have h7:(xo == 7)=false:=beq_eq_false_iff_ne.2 ho
         have hq7:=zh ho
         clear ho
         by_cases ho:xo=9
         ·subst ho
          obtain rfl:xa=(na:Int):=hna.resolve_left (by decide)
          have hg0:¬(na:Int)<0:=by omega
          have hlt:=HLT.out
          have hi0:(0:Int)≤(i:Int):=by omega
          have hi1:(i:Int)<(CN:Int):=by omega
          have hg1:¬(FN:Int)≤(na:Int):=by have:=hf7 (by decide);rw [←HFN.out] at this;omega
          have qI:w12.cell? ⟨I,0,none⟩=some (.int .i64 9)∧w12.cell? ⟨I,1,none⟩=some (.int .i64 (na:Int))∧w12.cell? ⟨I,2,none⟩=some (.int .i64 xb):=(C13.out.rd 0 rfl)
          have qC:w12.cell? ⟨C,0,none⟩=some (.slice (some ⟨b2,o2,none⟩) CN co):=(C13.out.rd 8 rfl)
          have qCK:w12.cell? ⟨b2,o2+i*4,none⟩=some (.string x.name)∧w12.cell? ⟨b2,o2+i*4+1,none⟩=some (.bool x.actor)∧w12.cell? ⟨b2,o2+i*4+2,none⟩=some (.slice pg FN cg)∧w12.cell? ⟨b2,o2+i*4+3,none⟩=some (.slice (some ⟨b4,o4,none⟩) MN ck):=(C13.out.rd 5 rfl)
          go_wp2_with fail
          clear qI qC qCK
          go_roundg (IN -(n+1))
          case measure=>omega
          case rel=>exact ⟨n+1,by go_num,by omega,rfl,zh (C13.out.ot)⟩
         have h9:(xo == 9)=false:=beq_eq_false_iff_ne.2 ho
         have hq9:=zh ho
         clear ho
         by_cases ho:xo=10
         ·subst ho
          obtain rfl:xa=(na:Int):=hna.resolve_left (by decide)
          have hg0:¬(na:Int)<0:=by omega
          obtain⟨i2,mb,c2,hi2,hc2,rfl,hmb2⟩:=hf10 (by decide)
          have hi2l:i2<CN:=by rw [←HCN.out];exact(List.getElem?_eq_some_iff.1 hc2).1
          obtain⟨x2,hx2⟩:∃x2,l[i2]? =some x2:=⟨_,List.getElem?_eq_getElem (by rw [HLN.out];exact hi2l)⟩
          obtain⟨c3,hc3,hsn3⟩:=HSN.out i2 x2 hx2
          have e9:=hc2.symm.trans hc3
          injection e9 with e9
          subst e9
          obtain⟨b8,o8,pq,FQ,cq,pr,MQ,cr,hp8,_,hnq,_,CQ⟩:=Mo.cc C13.out 9 rfl hx2
          injection hp8 with e7
          injection e7 with e7 e8
          subst e7 e8
          rw [hsn3.fields] at hnq
          rw [←hnq] at hmb2
          clear C13 hc2 hc3 hx2 hsn3 hnq
          have hcl:=HCL.out
          obtain⟨CM_,hCM⟩:∃q,CN+1=q:=⟨_,rfl⟩
          have hg1:IntKind.i64.wrap ((CN:Int)+1)=(CM_:Int):=by rw [IntKind.wrap_i64];omega
          have qI:w12.cell? ⟨I,0,none⟩=some (.int .i64 10)∧w12.cell? ⟨I,1,none⟩=some (.int .i64 (na:Int))∧w12.cell? ⟨I,2,none⟩=some (.int .i64 (mb:Int)):=(CQ.out.rd 3 rfl)
          have qC:w12.cell? ⟨C,0,none⟩=some (.slice (some ⟨b2,o2,none⟩) CN co):=(CQ.out.rd 11 rfl)
          go_upto_region 37 with fail
          clear qI qC
          clear hg1
          have hr0:(na:Int)≤(CN:Int):=by omega
          have hr1:(1:Int)≤(na:Int):=by omega
          have hr2:IntKind.i64.wrap ((na:Int) - 1)=(i2:Int):=by rw [IntKind.wrap_i64];omega
          have hr3:(0:Int)≤(i2:Int):=by omega
          have hr4:(i2:Int)<(CN:Int):=by omega
          have hr5:¬(FQ:Int)<(mb:Int):=by omega
          have HG1:Hid (¬(CM_:Int)≤(na:Int)):=zh (by omega)
          have HG0:=zh hg0
          clear hf3 hf6 hf7 hf10 hf0 hi2 hmb2 hi2l hg0 hCM hcl
          try clear hna
          obtain⟨w14,HW,C14⟩:=CQ.out.drewE
          refine wp_region_held_drew (S:=fun W=>W.cell? ⟨I,0,none⟩=some (.int .i64 10)∧W.cell? ⟨I,1,none⟩=some (.int .i64 (na:Int))∧W.cell? ⟨I,2,none⟩=some (.int .i64 (mb:Int))∧W.cell? ⟨C,0,none⟩=some (.slice (some ⟨b2,o2,none⟩) CN co)∧W.cell? ⟨b2,o2+i2*4,none⟩=some (.string x2.name)∧W.cell? ⟨b2,o2+i2*4+1,none⟩=some (.bool x2.actor)∧W.cell? ⟨b2,o2+i2*4+2,none⟩=some (.slice pq FQ cq)∧W.cell? ⟨b2,o2+i2*4+3,none⟩=some (.slice pr MQ cr)) (by kernel_rfl) (by rw [←HW.out];exact⟨(C14.out.rd 3 rfl).1,(C14.out.rd 3 rfl).2.1,(C14.out.rd 3 rfl).2.2,(C14.out.rd 11 rfl),(C14.out.rd 0 rfl).1,(C14.out.rd 0 rfl).2.1,(C14.out.rd 0 rfl).2.2.1,(C14.out.rd 0 rfl).2.2.2⟩) (fun hHeld=>?_)
          rw [←HW.out] at hHeld ⊢
          clear HW CQ
          refine rU 0 (some 120) ?_
          refine rU 1 (some 121) ?_
          refine rU 2 (some 122) ?_
          refine rU 3 (some 123) ?_
          refine rU 4 (some 124) ?_
          refine rU 5 (some 125) ?_
          refine rU 6 (some 126) ?_
          refine rU 7 (some 127) ?_
          refine rU 8 (some 128) ?_
          refine rU 9 (some 129) ?_
          refine rU 10 (some 130) ?_
          refine rU 11 (some 131) ?_
          refine rU 12 (some 132) ?_
          refine rU 13 (some 133) ?_
          refine rU 14 (some 134) ?_
          refine rU 15 (some 135) ?_
          refine rU 16 (some 136) ?_
          refine rU 17 (some 137) ?_
          refine rU 18 (some 138) ?_
          refine rU 19 (some 139) ?_
          refine rU 20 (some 140) ?_
          refine rU 21 (some 141) ?_
          refine rU 22 (some 142) ?_
          refine rU 23 (some 143) ?_
          refine rU 24 (some 144) ?_
          refine wpAnyH_done (by kernel_rfl) ?_ _
          clear hHeld hr0 hr1 hr2 hr3 hr4 hr5
          have hg1:=HG1.out
          have hg0:=HG0.out
          have qI:w14.cell? ⟨I,0,none⟩=some (.int .i64 10)∧w14.cell? ⟨I,1,none⟩=some (.int .i64 (na:Int))∧w14.cell? ⟨I,2,none⟩=some (.int .i64 (mb:Int)):=(C14.out.rd 3 rfl)
          go_wp2_with fail
          clear qI
          go_roundg (IN -(n+1))
          case measure=>omega
          case rel=>exact ⟨n+1,by go_num,by omega,rfl,zh (C14.out.ot.ot.ot.ot)⟩
         have h10:(xo == 10)=false:=beq_eq_false_iff_ne.2 ho
         have hq10:=zh ho
         clear ho
         by_cases ho:xo=11
         ·subst ho
          obtain rfl:xa=(na:Int):=hna.resolve_left (by decide)
          have hg0:¬(na:Int)<0:=by omega
          obtain⟨i2,mb,c2,hi2,hc2,rfl,hmb2⟩:=hf10 (by decide)
          have hi2l:i2<CN:=by rw [←HCN.out];exact(List.getElem?_eq_some_iff.1 hc2).1
          obtain⟨x2,hx2⟩:∃x2,l[i2]? =some x2:=⟨_,List.getElem?_eq_getElem (by rw [HLN.out];exact hi2l)⟩
          obtain⟨c3,hc3,hsn3⟩:=HSN.out i2 x2 hx2
          have e9:=hc2.symm.trans hc3
          injection e9 with e9
          subst e9
          obtain⟨b8,o8,pq,FQ,cq,pr,MQ,cr,hp8,_,hnq,_,CQ⟩:=Mo.cc C13.out 9 rfl hx2
          injection hp8 with e7
          injection e7 with e7 e8
          subst e7 e8
          rw [hsn3.fields] at hnq
          rw [←hnq] at hmb2
          clear C13 hc2 hc3 hx2 hsn3 hnq
          have hcl:=HCL.out
          obtain⟨CM_,hCM⟩:∃q,CN+1=q:=⟨_,rfl⟩
          have hg1:IntKind.i64.wrap ((CN:Int)+1)=(CM_:Int):=by rw [IntKind.wrap_i64];omega
          have qI:w12.cell? ⟨I,0,none⟩=some (.int .i64 11)∧w12.cell? ⟨I,1,none⟩=some (.int .i64 (na:Int))∧w12.cell? ⟨I,2,none⟩=some (.int .i64 (mb:Int)):=(CQ.out.rd 3 rfl)
          have qC:w12.cell? ⟨C,0,none⟩=some (.slice (some ⟨b2,o2,none⟩) CN co):=(CQ.out.rd 11 rfl)
          go_upto_region 37 with fail
          clear qI qC
          clear hg1
          have hr0:(na:Int)≤(CN:Int):=by omega
          have hr1:(1:Int)≤(na:Int):=by omega
          have hr2:IntKind.i64.wrap ((na:Int) - 1)=(i2:Int):=by rw [IntKind.wrap_i64];omega
          have hr3:(0:Int)≤(i2:Int):=by omega
          have hr4:(i2:Int)<(CN:Int):=by omega
          have hr5:¬(FQ:Int)<(mb:Int):=by omega
          have HG1:Hid (¬(CM_:Int)≤(na:Int)):=zh (by omega)
          have HG0:=zh hg0
          clear hf3 hf6 hf7 hf10 hf0 hi2 hmb2 hi2l hg0 hCM hcl
          try clear hna
          obtain⟨w15,HW,C15⟩:=CQ.out.drewE
          refine wp_region_held_drew (S:=fun W=>W.cell? ⟨I,0,none⟩=some (.int .i64 11)∧W.cell? ⟨I,1,none⟩=some (.int .i64 (na:Int))∧W.cell? ⟨I,2,none⟩=some (.int .i64 (mb:Int))∧W.cell? ⟨C,0,none⟩=some (.slice (some ⟨b2,o2,none⟩) CN co)∧W.cell? ⟨b2,o2+i2*4,none⟩=some (.string x2.name)∧W.cell? ⟨b2,o2+i2*4+1,none⟩=some (.bool x2.actor)∧W.cell? ⟨b2,o2+i2*4+2,none⟩=some (.slice pq FQ cq)∧W.cell? ⟨b2,o2+i2*4+3,none⟩=some (.slice pr MQ cr)) (by kernel_rfl) (by rw [←HW.out];exact⟨(C15.out.rd 3 rfl).1,(C15.out.rd 3 rfl).2.1,(C15.out.rd 3 rfl).2.2,(C15.out.rd 11 rfl),(C15.out.rd 0 rfl).1,(C15.out.rd 0 rfl).2.1,(C15.out.rd 0 rfl).2.2.1,(C15.out.rd 0 rfl).2.2.2⟩) (fun hHeld=>?_)
          rw [←HW.out] at hHeld ⊢
          clear HW CQ
          refine rU 0 (some 120) ?_
          refine rU 1 (some 121) ?_
          refine rU 2 (some 122) ?_
          refine rU 3 (some 123) ?_
          refine rU 4 (some 124) ?_
          refine rU 5 (some 125) ?_
          refine rU 6 (some 126) ?_
          refine rU 7 (some 127) ?_
          refine rU 8 (some 128) ?_
          refine rU 9 (some 129) ?_
          refine rU 10 (some 130) ?_
          refine rU 11 (some 131) ?_
          refine rU 12 (some 132) ?_
          refine rU 13 (some 133) ?_
          refine rU 14 (some 134) ?_
          refine rU 15 (some 135) ?_
          refine rU 16 (some 136) ?_
          refine rU 17 (some 137) ?_
          refine rU 18 (some 138) ?_
          refine rU 19 (some 139) ?_
          refine rU 20 (some 140) ?_
          refine rU 21 (some 141) ?_
          refine rU 22 (some 142) ?_
          refine rU 23 (some 143) ?_
          refine rU 24 (some 144) ?_
          refine wpAnyH_done (by kernel_rfl) ?_ _
          clear hHeld hr0 hr1 hr2 hr3 hr4 hr5
          have hg1:=HG1.out
          have hg0:=HG0.out
          have qI:w15.cell? ⟨I,0,none⟩=some (.int .i64 11)∧w15.cell? ⟨I,1,none⟩=some (.int .i64 (na:Int))∧w15.cell? ⟨I,2,none⟩=some (.int .i64 (mb:Int)):=(C15.out.rd 3 rfl)
          go_wp2_with fail
          clear qI
          go_roundg (IN -(n+1))
          case measure=>omega
          case rel=>exact ⟨n+1,by go_num,by omega,rfl,zh (C15.out.ot.ot.ot.ot)⟩
         have h11:(xo == 11)=false:=beq_eq_false_iff_ne.2 ho
         have hq11:=zh ho
         clear ho
         by_cases ho:xo=0
         ·subst ho
          have qI:w12.cell? ⟨I,0,none⟩=some (.int .i64 0)∧w12.cell? ⟨I,1,none⟩=some (.int .i64 xa)∧w12.cell? ⟨I,2,none⟩=some (.int .i64 xb):=(C13.out.rd 0 rfl)
          go_wp2_with fail
          clear qI
          go_roundg (IN -(n+1))
          case measure=>omega
          case rel=>exact ⟨n+1,by go_num,by omega,rfl,zh (C13.out.ot)⟩
         have h0:(xo == 0)=false:=beq_eq_false_iff_ne.2 ho
         have hq0:=zh ho
         clear ho
         obtain rfl:xa=(na:Int):=hna.resolve_left hq0.out
         have hg0:¬(na:Int)<0:=by omega
         have hg1:¬(4001:Int)≤(na:Int):=by
          have:=hf0 hq0.out hq3.out hq4.out hq6.out hq8.out hq21.out hq24.out hq7.out hq9.out hq10.out hq11.out
          omega
         clear hf3 hf6 hf7 hf10 hf0 hna
         have qI:w12.cell? ⟨I,0,none⟩=some (.int .i64 xo)∧w12.cell? ⟨I,1,none⟩=some (.int .i64 (na:Int))∧w12.cell? ⟨I,2,none⟩=some (.int .i64 xb):=(C13.out.rd 0 rfl)
         go_wp2_with fail
         clear qI
         go_roundg (IN -(n+1))
         case measure=>omega
         case rel=>exact ⟨n+1,by go_num,by omega,rfl,zh (C13.out.ot)⟩
        ·obtain rfl:IN=n:=by omega
         have hlk:=HLK.out
         have hmb:=HMB.out
         have qM:wr.cell? ⟨M,0,none⟩=some (.string y.name)∧wr.cell? ⟨M,1,none⟩=some (.int .i64 PA)∧wr.cell? ⟨M,2,none⟩=some (.int .i64 LO)∧wr.cell? ⟨M,3,none⟩=some (.slice (some ⟨b5,o5,none⟩) IN ci)∧wr.cell? ⟨M,4,none⟩=some (.slice pn NN cn):=(CJ.out.rd 0 rfl)
         go_wp2_with fail
         clear qM
         go_roundg (MN -(k+1))
         case measure=>omega
         case rel=>exact ⟨k+1,by go_num,by omega,rfl,zh (CJ.out.ot.ot.ot.ot)⟩
      ·obtain rfl:MN=k:=by omega
       have qC:wr.cell? ⟨C,0,none⟩=some (.slice (some ⟨b2,o2,none⟩) CN co):=(CI.out.rd 3 rfl)
       have qCK:wr.cell? ⟨b2,o2+i*4,none⟩=some (.string x.name)∧wr.cell? ⟨b2,o2+i*4+1,none⟩=some (.bool x.actor)∧wr.cell? ⟨b2,o2+i*4+2,none⟩=some (.slice pg FN cg)∧wr.cell? ⟨b2,o2+i*4+3,none⟩=some (.slice pk MN ck):=(CI.out.rd 0 rfl)
       go_wp2_with fail
       clear qC qCK
       go_roundg (CN -(i+1))
       case measure=>omega
       case rel=>exact ⟨i+1,by go_num,by omega,rfl,zh (CI.out.ot.ot.ot)⟩
    ·obtain rfl:CN=i:=by omega
     have qC:wr.cell? ⟨C,0,none⟩=some (.slice po CN co):=(CR.out.rd 0 rfl)
     have qP:wr.cell? ⟨P,0,none⟩=some (.slice pp CN cp):=(CR.out.rd 2 rfl)
     go_wp2_with fail
     clear qC qP
     go_ret
     exact⟨rfl,CR.out.gr.fresh⟩
  ·have hn0:n≠0:=by
    rcases hbad with ⟨r,hr⟩|⟨_,_,rfl⟩
    ·exact(Co.zVD hr).1
    ·omega
   have hnb:((n:Int) == 0)=false:=beq_eq_false_iff_ne.2 (by omega)
   clear hbad hn0
   have CE6:=zh (Mz.below C5.out hb9)
   clear hb9 C5
   obtain⟨C,w16,HX,HW,hx16,C16⟩:=CE6.out.boxE #[.slice none 0 0] 29
   go_upto_region 6 with fail
   rw [←HX.out,←HW.out]
   clear HX HW CE6
   have C17:=zh (Mz.foldA1 C16.out)
   clear C16
   have qC:w16.cell? ⟨C,0,none⟩=some (.slice none 0 0):=(C17.out.rd 0 rfl)
   go_wp2_with fail
   clear qC
   go_ret
   exact⟨rfl,C17.out.gr.fresh⟩
end Cw
end Go.Proofs.YtcnmfcgmnkncaaaGreatDoor
