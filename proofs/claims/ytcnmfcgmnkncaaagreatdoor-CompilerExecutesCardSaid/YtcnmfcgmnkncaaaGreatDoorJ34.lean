/-
  CompilerExecutes, walked.
-/
import Derived.Test.YtcnmfcgmnkncaaaGreatDoorJ33
namespace Go.Proofs.YtcnmfcgmnkncaaaGreatDoor
namespace Cw
open Go.RowKit Go.Maps Pw
theorem x_code {e:Tr.E} {g:Co.G} (hv:Tr.validE e=true) (hc:Co.cov e=true) (hg:Co.gM (Co.xCs e) (Co.xC e) (Co.xM e)=some g):∀x∈g.code,Vd x∧Co.okOp x.1:=by
 intro x hx
 obtain⟨D,hG⟩:=Co.zT4 hg (Co.zKN hv).2 (fun t _=>Co.zLX hv hc t)
 obtain⟨i,hi,hx2⟩:=List.getElem_of_mem hx
 have hs:=zMP hg
 have hl:g.locals=2:=by
  have h9:=Co.zP3 (Co.zKN hv).2 hg
  rw [h9,show Ck.lets (Co.xM e).body=0 from by show Ck.lets [.mk 6 ⟨#[]⟩ [e] [] []]=0;rw [Ck.lets,Ck.lets,Ck.letsS,Ck.lets];rfl]
  rfl
 refine⟨fin_vd (hG.ins i x (by rw [List.getElem?_eq_getElem hi,hx2])) hs.1 (by omega) hs.2 (Nat.zero_le _) (show 1≤60 by decide) (fun c hc=>?_),Co.gM_ops (cs:=Co.xCs e) (m:=Co.xM e) rfl hc hg x hx⟩
 rw [List.mem_singleton.1 hc]
 exact Nat.zero_le _
set_option maxRecDepth 100000 in
set_option maxHeartbeats 40000000 in
theorem zR8 (e:Tr.E) (a b:Int) (v:Value) (w:World) (hE:CoEnv w) (h:BdE e∧SlE w v e.args):
 Calls Tryz.prog 8 #[exprV e v,.int .i64 a,.int .i64 b] w fun r w'=>r= .returned (.bool true)∧Below w.heap.size w w':=by
 obtain⟨hbd,hS⟩:=h
 obtain⟨p,c,rfl,_⟩:=hS.form
 obtain⟨N,hN⟩:∃q,e.args.length=q:=⟨_,rfl⟩
 rw [hN] at hS ⊢
 have HB:=zh hbd
 have HE:=zh hE
 have C0:=zh (Mo.add (Mo.start w) (r:=RE (.slice p N c) e.args) re_mn hS)
 clear hS hbd hE hN
 unfold exprV
 obtain⟨E,w1,HX1,HW1,hx1,C1⟩:=C0.out.boxE #[.int .i64 e.kind,.int .i64 e.op,.int .i64 e.int,.string e.name,.bool e.at_,.slice p N c] 37
 go_enter Tryz.func8,Tryz.ntmps8
 go_upto_region 1 with fail
 rw [←HX1.out,←HW1.out]
 clear HX1 HW1 C0
 go_wp2_with fail
 have hk:=zLW w1 (HE.out.keep C1.out.gr.fresh)
 refine hk.mono ?_
 clear hk
 rintro e w2 ⟨rfl,hb9⟩
 have C2:=zh (Mz.below C1.out hb9)
 clear hb9 C1
 cases hf:Tr.fewE e 80
 ·have q0:=cells6 (C2.out.b 0 rfl)
  go_wp2_with fail
  clear q0
  have hk:=zG1 e (.slice p N c) 80 w2 HB.out (C2.out.rd 0 rfl) (by decide) (by decide)
  unfold exprV at hk
  rw [hf] at hk
  refine hk.mono ?_
  clear hk
  rintro e w3 ⟨rfl,hb9⟩
  have C3:=zh (Mz.below C2.out hb9)
  clear hb9 C2
  go_wp2_with fail
  go_ret
  exact⟨rfl,C3.out.gr.fresh⟩
 ·have q0:=cells6 (C2.out.b 0 rfl)
  go_wp2_with fail
  clear q0
  have hk:=zG1 e (.slice p N c) 80 w2 HB.out (C2.out.rd 0 rfl) (by decide) (by decide)
  unfold exprV at hk
  rw [hf] at hk
  refine hk.mono ?_
  clear hk
  rintro e w4 ⟨rfl,hb9⟩
  have C4:=zh (Mz.below C2.out hb9)
  clear hb9 C2
  have HW:=zh (few_wE hf (by decide))
  have hf9:=hf
  clear hf
  cases hv:Tr.validE e
  ·have q0:=cells6 (C4.out.b 0 rfl)
   go_wp2_with fail
   clear q0
   have hk:=zDH e.deep e (.slice p N c) w4 (Nat.le_refl _) HB.out (C4.out.rd 0 rfl)
   unfold exprV at hk
   rw [hv] at hk
   refine hk.mono ?_
   clear hk
   rintro e w5 ⟨rfl,hb9⟩
   have C5:=zh (Mz.below C4.out hb9)
   clear hb9 C4
   go_wp2_with fail
   go_ret
   exact⟨rfl,C5.out.gr.fresh⟩
  ·have q0:=cells6 (C4.out.b 0 rfl)
   go_wp2_with fail
   clear q0
   have hk:=zDH e.deep e (.slice p N c) w4 (Nat.le_refl _) HB.out (C4.out.rd 0 rfl)
   unfold exprV at hk
   rw [hv] at hk
   refine hk.mono ?_
   clear hk
   rintro e w6 ⟨rfl,hb9⟩
   have C6:=zh (Mz.below C4.out hb9)
   clear hb9 C4
   cases hc:Co.cov e
   ·have q0:=cells6 (C6.out.b 0 rfl)
    go_wp2_with fail
    clear q0
    have hk:=zC5 e.deep e (.slice p N c) w6 (Nat.le_refl _) HB.out (C6.out.rd 0 rfl)
    unfold exprV at hk
    rw [hc] at hk
    refine hk.mono ?_
    clear hk
    rintro e w7 ⟨rfl,hb9⟩
    have C7:=zh (Mz.below C6.out hb9)
    clear hb9 C6
    go_wp2_with fail
    go_ret
    exact⟨rfl,C7.out.gr.fresh⟩
   ·have q0:=cells6 (C6.out.b 0 rfl)
    go_wp2_with fail
    clear q0
    have hk:=zC5 e.deep e (.slice p N c) w6 (Nat.le_refl _) HB.out (C6.out.rd 0 rfl)
    unfold exprV at hk
    rw [hc] at hk
    refine hk.mono ?_
    clear hk
    rintro e w8 ⟨rfl,hb9⟩
    have C8:=zh (Mz.below C6.out hb9)
    clear hb9 C6
    have HV:=zh hv
    have HC:=zh hc
    have HF:=zh hf9
    clear hv hc hf9
    have hfp:=Co.x_few HF.out
    have HSM:=zh (Ck.zL3 hfp (by decide))
    have HFIT:=zh (Tr.zQO hfp (by decide))
    have HSZ:=zh (Co.zS6 hfp (by decide))
    clear hfp
    have q0:=cells6 (C8.out.b 0 rfl)
    obtain⟨NB,w9,HX9,HW9,hx9,C9⟩:=C8.out.boxE #[.string ⟨#[97]⟩,.string ⟨#[98]⟩] 9
    obtain⟨EB,w10,HX10,HW10,hx10,C10⟩:=C9.out.boxE #[.int .i64 e.kind,.int .i64 e.op,.int .i64 e.int,.string e.name,.bool e.at_,.slice p N c] 37
    have HY10:Hid (EB=NB+1):=zh (by rw [HX10.out,HW9.out,HX9.out];simp)
    obtain⟨SB,w11,HX11,HW11,hx11,C11⟩:=C10.out.boxE #[.int .i64 6,.string ⟨#[]⟩,.slice (some ⟨EB,0,none⟩) 1 1,.slice none 0 0,.slice none 0 0] 71
    have HY11:Hid (SB=EB+1):=zh (by rw [HX11.out,HW10.out,HX10.out];simp)
    obtain⟨MB,w12,HX12,HW12,hx12,C12⟩:=C11.out.boxE #[.string ⟨#[109]⟩,.slice (some ⟨NB,0,none⟩) 2 2,.slice (some ⟨SB,0,none⟩) 1 1] 62
    have HY12:Hid (MB=SB+1):=zh (by rw [HX12.out,HW11.out,HX11.out];simp)
    obtain⟨CB,w13,HX13,HW13,hx13,C13⟩:=C12.out.boxE #[.string ⟨#[65]⟩,.bool true,.slice none 0 0,.slice (some ⟨MB,0,none⟩) 1 1] 55
    have HY13:Hid (CB=MB+1):=zh (by rw [HX13.out,HW12.out,HX12.out];simp)
    obtain⟨P,w14,HX14,HW14,hx14,C14⟩:=C13.out.boxE #[.slice (some ⟨CB,0,none⟩) 1 1] 24
    have HY14:Hid (P=CB+1):=zh (by rw [HX14.out,HW13.out,HX13.out];simp)
    go_upto_region 6 with fail
    rw [←HX9.out,←HW9.out,←HY10.out,←HW10.out,←HY11.out,←HW11.out,←HY12.out,←HW12.out,←HY13.out,←HW13.out,←HY14.out,←HW14.out]
    clear HX9 HW9 C8 HY10 HX10 HW10 C9 HY11 HX11 HW11 C10 HY12 HX12 HW12 C11 HY13 HX13 HW13 C12 HY14 HX14 HW14 C13 q0
    have hse:SlE w14 (.slice (some ⟨EB,0,none⟩) 1 1) [e]:=zD5 (e:=e) (C14.out.b 4 rfl) HB.out (C14.out.rd 0 rfl)
    have hss:SlS w14 (.slice (some ⟨SB,0,none⟩) 1 1) [.mk 6 ⟨#[]⟩ [e] [] []]:=zH8 (s:= .mk 6 ⟨#[]⟩ [e] [] []) (C14.out.b 3 rfl) ⟨(by decide:Tr.I64 6),zD6⟩ hse (.nil _ _) (.nil _ _)
    have hsn:SlStr w14 (.slice (some ⟨NB,0,none⟩) 2 2) [⟨#[97]⟩,⟨#[98]⟩]:=zJD (l:= [⟨#[97]⟩,⟨#[98]⟩]) (C14.out.b 5 rfl) rfl (by decide) (fun s hs=>by simp only [List.mem_cons,List.not_mem_nil,or_false] at hs;rcases hs with rfl|rfl<;>decide)
    have hsm:SlM w14 (.slice (some ⟨MB,0,none⟩) 1 1) [Co.xM e]:=zL4 (m:=Co.xM e) (C14.out.b 2 rfl) (by show 1≤maxLen;decide) hsn hss
    have hsc:SlC w14 (.slice (some ⟨CB,0,none⟩) 1 1) (Co.xCs e):=zL5 (c:=Co.xC e) (C14.out.b 1 rfl) (by show 1≤maxLen;decide) (zF6 _ _ _) hsm
    have HSCC:=zh hsc
    clear hse hss hsn hsm hsc
    have q0:=cells1 (C14.out.b 0 rfl)
    go_wp2_with fail
    clear q0
    refine(zKM 0 0 HSCC.out (HE.out.keep C14.out.gr.fresh) HSM.out HFIT.out HSZ.out).mono ?_
    rintro e9 w15 ⟨hb9,hmq⟩
    rcases hmq with ⟨n,r,hck,_⟩|⟨_,hno,_⟩|⟨_,c9,m9,hat,hmp⟩
    ·rw [Co.zTC HV.out HC.out] at hck
     cases hck
    ·exact absurd (⟨by decide,by decide,rfl,rfl⟩:At (Co.xCs e) 0 0 (Co.xC e) (Co.xM e)) (hno _ _)
    ·obtain⟨_,_,hc9,hm9⟩:=hat
     have hc8:some (Co.xC e)=some c9:=hc9
     cases hc8
     have hm8:some (Co.xM e)=some m9:=hm9
     cases hm8
     obtain⟨_,hmp⟩:=hmp
     clear hc9 hm9
     cases hg:Co.gM (Co.xCs e) (Co.xC e) (Co.xM e)
     ·rw [hg] at hmp
      subst hmp
      have C15:=zh (Mz.below C14.out hb9)
      clear hb9 C14
      obtain⟨M,w16,HX,HW,hx16,C16⟩:=C15.out.boxE #[.string ⟨#[]⟩,.int .i64 0,.int .i64 0,.slice none 0 0,.slice none 0 0] 59
      go_wp2_with fail
      rw [←HX.out,←HW.out]
      clear HX HW C15
      go_ret
      exact⟨rfl,C16.out.gr.fresh⟩
     ·rename_i g
      rw [hg] at hmp
      obtain⟨cv,nv,rfl,hci,hni⟩:=hmp
      have hcf:=hci.form
      obtain⟨pc,cc,rfl,_⟩:=hcf
      have hnf:=hni
      obtain⟨pn,cn,rfl,_,_⟩:=hnf
      have C15:=zh (Mz.add C14.out hb9 (r:=RCM (.slice pc g.code.length cc) (.slice pn g.names.length cn) g) zSZ ⟨hci,hni⟩)
      clear hb9 hci hni C14
      have HXC:=zh (x_code HV.out HC.out hg)
      have HGS:=zh (zMP hg)
      have hrun:=fun A B=>Co.zT3 (et:=7) (er:=2) (a:=A) (b:=B) (cs:=Co.xCs e) (cl:=Co.xC e) (m:=Co.xM e) (by decide) rfl rfl HV.out HC.out hg
      have HRUN:=zh hrun
      clear hrun hg
      obtain⟨LL,hLL⟩:∃q,g.code.length=q:=⟨_,rfl⟩
      have HLL:=zh hLL
      obtain⟨NL,hNL⟩:∃q,g.names.length=q:=⟨_,rfl⟩
      rw [hLL,hNL] at C15 ⊢
      clear hLL hNL
      obtain⟨PN,hPN⟩:∃q,((Co.xM e).params.length:Int)=q:=⟨_,rfl⟩
      rw [hPN]
      clear hPN
      obtain⟨nm9,hnm⟩:∃q,(Co.xM e).name=q:=⟨_,rfl⟩
      rw [hnm]
      clear hnm
      obtain⟨M,w17,HX,HW,hx17,C17⟩:=C15.out.boxE #[.string nm9,.int .i64 PN,.int .i64 g.locals,.slice pc LL cc,.slice pn NL cn] 59
      go_upto_region 9 with fail
      rw [←HX.out,←HW.out]
      clear HX HW C15
      obtain⟨A,hA⟩:∃q,vOf a=q:=⟨_,rfl⟩
      obtain⟨B,hB⟩:∃q,vOf b=q:=⟨_,rfl⟩
      obtain⟨sA,hsA⟩:∃q,A.isSome=q:=⟨_,rfl⟩
      obtain⟨nA,hnA⟩:∃q,A.getD 0=q:=⟨_,rfl⟩
      have HSA:=zh hsA
      have HNA:=zh hnA
      clear hsA hnA
      obtain⟨sB,hsB⟩:∃q,B.isSome=q:=⟨_,rfl⟩
      obtain⟨nB,hnB⟩:∃q,B.getD 0=q:=⟨_,rfl⟩
      have HSB:=zh hsB
      have HNB:=zh hnB
      clear hsB hnB
      obtain⟨v9,f9,k9,hev⟩:∃v f k,Co.eval 7 2 A B e=(v,f,k):=⟨_,_,_,rfl⟩
      obtain rfl:k9=true:=by have h9:=(Co.zBV (et:=7) (er:=2) (a:=A) (b:=B) e HV.out HC.out).1;rw [hev] at h9;exact h9
      have HEV:=zh hev
      obtain⟨s9,hs9⟩:∃q,v9.isSome=q:=⟨_,rfl⟩
      obtain⟨n9,hn9⟩:∃q,v9.getD 0=q:=⟨_,rfl⟩
      have HS9:=zh hs9
      have HN9:=zh hn9
      have HRN:=zh ((HRUN.out A B).trans hev)
      clear hev hs9 hn9 HRUN
      have q7:=cells6 (C17.out.b 7 rfl)
      go_wp2_with fail
      clear q7
      have hk:=zKU a b w17
      rw [hA,hB] at hk
      unfold vV at hk
      rw [HSA.out,HNA.out,HSB.out,HNB.out] at hk
      clear hA hB
      refine hk.mono ?_
      clear hk
      rintro e w18 ⟨rfl,hb9⟩
      have C18:=zh (Mz.below C17.out hb9)
      clear hb9 C17
      obtain⟨X,w19,HX19,HW19,hx19,C19⟩:=C18.out.boxE #[.bool sA,.int .i64 nA] 43
      obtain⟨Y,w20,HX20,HW20,hx20,C20⟩:=C19.out.boxE #[.bool sB,.int .i64 nB] 43
      have HY20:Hid (Y=X+1):=zh (by rw [HX20.out,HW19.out,HX19.out];simp)
      go_upto_region 10 with fail
      rw [←HX19.out,←HW19.out,←HY20.out,←HW20.out]
      clear HX19 HW19 C18 HY20 HX20 HW20 C19
      have q9:=cells6 (C20.out.b 9 rfl)
      have q1:=cells2 (C20.out.b 1 rfl)
      have q0:=cells2 (C20.out.b 0 rfl)
      go_wp2_with fail
      clear q9 q1 q0
      have hk:=zIR A B e.deep e (.slice p N c) w20 (Nat.le_refl _) HV.out HC.out HB.out (C20.out.rd 1 rfl)
      unfold exprV at hk
      unfold vV at hk
      rw [HSA.out,HNA.out,HSB.out,HNB.out,HEV.out] at hk
      dsimp only at hk
      rw [HS9.out,HN9.out] at hk
      refine hk.mono ?_
      clear hk
      rintro e w21 ⟨rfl,hb9⟩
      have C21:=zh (Mz.below C20.out hb9)
      clear hb9 C20
      obtain⟨Z,w22,HX22,HW22,hx22,C22⟩:=C21.out.boxE #[.bool s9,.int .i64 n9] 43
      go_upto_region 11 with fail
      rw [←HX22.out,←HW22.out]
      clear HX22 HW22 C21
      have q3:=cells5 (C22.out.b 3 rfl)
      have q2:=cells2 (C22.out.b 2 rfl)
      have q1:=cells2 (C22.out.b 1 rfl)
      go_wp2_with fail
      clear q3 q2 q1
      have hk:=zLQ nm9 PN g.locals g.code (.slice pc LL cc) (.slice pn NL cn) A B w22 ⟨_,_,_,rfl⟩ (C22.out.rd 0 rfl).1 HGS.out.2 HXC.out
      rw [HRN.out] at hk
      unfold vV at hk
      dsimp only at hk
      rw [HSA.out,HNA.out,HSB.out,HNB.out,HS9.out,HN9.out] at hk
      refine hk.mono ?_
      clear hk
      rintro e w23 ⟨rfl,hb9⟩
      have C23:=zh (Mz.below C22.out hb9)
      clear hb9 C22
      obtain⟨U,w24,HX24,HW24,hx24,C24⟩:=C23.out.boxE #[.bool s9,.int .i64 n9] 43
      go_upto_region 12 with fail
      rw [←HX24.out,←HW24.out]
      clear HX24 HW24 C23
      have q1:=cells2 (C24.out.b 1 rfl)
      have q0:=cells2 (C24.out.b 0 rfl)
      go_wp2_with fail
      clear q1 q0
      go_ret
      exact⟨by first|rfl|simp,C24.out.gr.fresh⟩
end Cw
end Go.Proofs.YtcnmfcgmnkncaaaGreatDoor
