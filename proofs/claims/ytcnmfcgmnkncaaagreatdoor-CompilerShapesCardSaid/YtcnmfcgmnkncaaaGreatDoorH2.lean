/-
  CompilerShapes, walked.
-/
import Derived.Test.YtcnmfcgmnkncaaaGreatDoorH1
namespace Go.Proofs.YtcnmfcgmnkncaaaGreatDoor
namespace Cw
open Go.RowKit Go.Maps Pw
theorem named_bool (o:Int):(o != 6 && o != 8 && o != 21 && o != 24)= !Co.named o:=by
 unfold Co.named
 by_cases h6:o=6<;>by_cases h8:o=8<;>by_cases h21:o=21<;>by_cases h24:o=24<;>simp_all
theorem names_ne {l:List ByteArray} (h:l.Nodup) {i j:Nat} {a b:ByteArray} (ha:l[i]? =some a) (hb:l[j]? =some b) (hlt:i<j):¬a.toList=b.toList:=list_ne fun h2=>by
 subst h2
 obtain⟨h1,e1⟩:=List.getElem?_eq_some_iff.1 ha
 obtain⟨h3,e3⟩:=List.getElem?_eq_some_iff.1 hb
 exact(List.pairwise_iff_getElem.1 h) i j h1 h3 hlt (e1.trans e3.symm)
set_option maxRecDepth 100000 in
set_option maxHeartbeats 40000000 in
theorem law_shapes (cs:List Tr.C) (v:Value) (w:World) (hE:CoEnv w) (hp:SlC w v cs):
 Calls Tryz.prog 6 #[.agg #[v]] w fun r w'=>r= .returned (.bool true)∧Below w.heap.size w w':=by
 have hp0:=hp
 obtain⟨pp,cp,rfl,hcl,_⟩:=hp
 obtain⟨CN,hCN⟩:∃q,cs.length=q:=⟨_,rfl⟩
 rw [hCN] at hp0 hcl ⊢
 have HE:=Lib.hid hE
 have HCN:=Lib.hid hCN
 have C0:=Lib.hid (Mo.add (Mo.start w) (r:=RC (.slice pp CN cp) cs) rc_mn hp0)
 have HCL:=Lib.hid hcl
 clear hp0 hE hCN hcl
 obtain⟨P,w1,HX,HW,hx1,C1⟩:=C0.out.boxE #[.slice pp CN cp] 24
 go_enter Tryz.func6,Tryz.ntmps6
 go_upto_region 1 with fail
 rw [←HX.out,←HW.out]
 clear HX HW C0
 have C2:=Lib.hid (Mz.foldA1 C1.out)
 clear C1
 go_wp2_with fail
 have hk:=awake42_any w1 (HE.out.keep C2.out.gr.fresh)
 refine hk.mono ?_
 clear hk
 rintro e w3 ⟨rfl,hb9⟩
 have C3:=Lib.hid (Mz.below C2.out hb9)
 clear hb9 C2
 cases hf:Tr.fewP cs 150
 ·have qP:w3.cell? ⟨P,0,none⟩=some (.slice pp CN cp):=(C3.out.rd 0 rfl)
  go_wp2_with fail
  clear qP
  have hk:=few_any (.slice pp CN cp) cs 150 w3 (C3.out.rd 1 rfl) (by decide) (by decide)
  rw [hf] at hk
  refine hk.mono ?_
  clear hk
  rintro e w4 ⟨rfl,hb9⟩
  have C4:=Lib.hid (Mz.below C3.out hb9)
  clear hb9 C3
  go_wp2_with fail
  go_ret
  exact⟨rfl,C4.out.gr.fresh⟩
 ·have qP:w3.cell? ⟨P,0,none⟩=some (.slice pp CN cp):=(C3.out.rd 0 rfl)
  go_wp2_with fail
  clear qP
  have hk:=few_any (.slice pp CN cp) cs 150 w3 (C3.out.rd 1 rfl) (by decide) (by decide)
  rw [hf] at hk
  refine hk.mono ?_
  clear hk
  rintro e w5 ⟨rfl,hb9⟩
  have C5:=Lib.hid (Mz.below C3.out hb9)
  clear hb9 C3
  have HSM:=Lib.hid (Ck.small_of hf (by decide))
  have HFIT:=Lib.hid (Tr.fitP_of hf (by decide))
  have HSZ:=Lib.hid (Co.few_sz hf (by decide))
  clear hf
  have qP:w5.cell? ⟨P,0,none⟩=some (.slice pp CN cp):=(C5.out.rd 0 rfl)
  go_wp2_with fail
  clear qP
  refine(program_any42 (C5.out.rd 1 rfl) (HE.out.keep C5.out.gr.fresh) HSM.out HFIT.out HSZ.out).mono ?_
  rintro e w6 ⟨hb9,v9,hpp⟩
  rcases hpp with ⟨hck,l,hl,rfl,hs9⟩|⟨rfl,n,rfl,hbad⟩
  ·obtain⟨hln,hshp⟩:=Co.shapes_of (check_valid hck) hl
   have hs8:=hs9
   obtain⟨po,co,rfl,hcl,_⟩:=hs8
   rw [hln,HCN.out] at hs9 ⊢
   have C6:=Lib.hid (Mz.add C5.out hb9 (r:=RCc (.slice po CN co) l) rcc_mn hs9)
   have HSHP:=Lib.hid hshp
   clear hb9 hs9 C5 hck hl hshp hcl
   obtain⟨C,w7,HX,HW,hx7,C7⟩:=C6.out.boxE #[.slice po CN co] 29
   go_upto_region 6 with fail
   rw [←HX.out,←HW.out]
   clear HX HW C6
   have C8:=Lib.hid (Mz.foldA1 C7.out)
   clear C7
   have qP:w7.cell? ⟨P,0,none⟩=some (.slice pp CN cp):=(C8.out.rd 2 rfl)
   have qC:w7.cell? ⟨C,0,none⟩=some (.slice po CN co):=(C8.out.rd 0 rfl)
   go_wp2_with fail
   clear qP qC
   go_loopg [5] CN (fun gg s5 wr=>∃i:Nat,s5= .int .i64 i∧i≤CN∧gg=CN -i∧Hid (Mz 0 0 w [] (fun _=>True) [] [] [A1 C (.slice po CN co),RCc (.slice po CN co) l,A1 P (.slice pp CN cp),RC (.slice pp CN cp) cs] wr))
   case atStart=>exact ⟨0,rfl,Nat.zero_le _,rfl,C8⟩
   case round=>
    clear C8
    obtain⟨i,rfl,hi,rfl,CR⟩:=hrel
    by_cases hlt:i<CN
    ·obtain⟨w_,hw_⟩:∃q,q=wr:=⟨_,rfl⟩
     rw [←hw_] at CR ⊢
     clear hw_
     obtain⟨c,hc⟩:∃c,cs[i]? =some c:=⟨_,List.getElem?_eq_getElem (by rw [HCN.out];exact hlt)⟩
     obtain⟨x,hx,hsh⟩:=HSHP.out i c hc
     obtain⟨b1,o1,pf,FN,cf,pm,MN,cm,hp1,hb1,hn1,hn2,CA⟩:=Mo.tc CR.out 3 rfl hc
     subst hp1
     obtain⟨b2,o2,pg,FX,cg,pk,MX,ck,hp2,hb2,hn3,hn4,CB⟩:=Mo.cc CA.out 4 rfl hx
     subst hp2
     rw [hsh.fields] at hn3
     rw [hsh.len] at hn4
     obtain rfl:FX=FN:=by omega
     obtain rfl:MX=MN:=by omega
     rw [hsh.name,hsh.actor,hsh.fields] at CB
     have HC:=Lib.hid hc
     have HSH:=Lib.hid hsh
     have HFN:=Lib.hid hn1
     have HMN:=Lib.hid hn2
     have HSC:=Lib.hid (HSM.out.all c (List.mem_of_getElem? hc))
     have HMB:Hid (MX≤1000000):=Lib.hid (by have h9:=HSC.out.mths;rw [←hn2] at h9;exact h9)
     clear hc hx hsh hn1 hn2 hn3 hn4 CA CR
     have qC:w_.cell? ⟨C,0,none⟩=some (.slice (some ⟨b2,o2,none⟩) CN co):=(CB.out.rd 6 rfl)
     have qP:w_.cell? ⟨P,0,none⟩=some (.slice (some ⟨b1,o1,none⟩) CN cp):=(CB.out.rd 8 rfl)
     go_upto_region 13 with fail
     clear qC qP
     go_cut [6,7] (fun s6 s7 wx=>∃X Y:Nat,s6= .pointer (some ⟨X,0,none⟩)∧s7= .pointer (some ⟨Y,0,none⟩)∧Hid (Mz 0 0 w [] (fun _=>True) [] [] [A4 Y (.string c.name) (.bool c.actor) (.slice pf FX cf) (.slice pm MX cm),A4 X (.string c.name) (.bool c.actor) (.slice pg FX cg) (.slice pk MX ck),B4 b2 (o2+i*4) (.string c.name) (.bool c.actor) (.slice pg FX cg) (.slice pk MX ck),RN (.slice pg FX cg) c.fields,RMm (.slice pk MX ck) x.methods,B4 b1 (o1+i*4) (.string c.name) (.bool c.actor) (.slice pf FX cf) (.slice pm MX cm),RN (.slice pf FX cf) c.fields,RMt (.slice pm MX cm) c.methods,A1 C (.slice (some ⟨b2,o2,none⟩) CN co),RCc (.slice (some ⟨b2,o2,none⟩) CN co) l,A1 P (.slice (some ⟨b1,o1,none⟩) CN cp),RC (.slice (some ⟨b1,o1,none⟩) CN cp) cs] wx))
     case first=>
      have hi0:(0:Int)≤(i:Int):=by omega
      have hi1:(i:Int)<(CN:Int):=by omega
      obtain⟨w9,HW,C9⟩:=CB.out.drewE
      refine wp_region_held_drew (S:=fun W=>W.cell? ⟨C,0,none⟩=some (.slice (some ⟨b2,o2,none⟩) CN co)∧W.cell? ⟨P,0,none⟩=some (.slice (some ⟨b1,o1,none⟩) CN cp)∧W.cell? ⟨b2,o2+i*4,none⟩=some (.string c.name)∧W.cell? ⟨b2,o2+i*4+1,none⟩=some (.bool c.actor)∧W.cell? ⟨b2,o2+i*4+2,none⟩=some (.slice pg FX cg)∧W.cell? ⟨b2,o2+i*4+3,none⟩=some (.slice pk MX ck)∧W.cell? ⟨b1,o1+i*4,none⟩=some (.string c.name)∧W.cell? ⟨b1,o1+i*4+1,none⟩=some (.bool c.actor)∧W.cell? ⟨b1,o1+i*4+2,none⟩=some (.slice pf FX cf)∧W.cell? ⟨b1,o1+i*4+3,none⟩=some (.slice pm MX cm)) (by kernel_rfl) (by rw [←HW.out];exact⟨(C9.out.rd 6 rfl),(C9.out.rd 8 rfl),(C9.out.rd 0 rfl).1,(C9.out.rd 0 rfl).2.1,(C9.out.rd 0 rfl).2.2.1,(C9.out.rd 0 rfl).2.2.2,(C9.out.rd 3 rfl).1,(C9.out.rd 3 rfl).2.1,(C9.out.rd 3 rfl).2.2.1,(C9.out.rd 3 rfl).2.2.2⟩) (fun hHeld=>?_)
      rw [←HW.out] at hHeld ⊢
      clear HW CB
      refine rT 0 (some 42) ?_
      try simp only [Act.put,q0,q1,q2]
      refine rT 1 (some 43) ?_
      try simp only [Act.put,q0,q1,q2]
      refine rT 2 (some 44) ?_
      try simp only [Act.put,q0,q1,q2]
      refine rT 3 (some 45) ?_
      try simp only [Act.put,q0,q1,q2]
      refine rT 4 (some 46) ?_
      try simp only [Act.put,q0,q1,q2]
      refine rT 5 (some 47) ?_
      try simp only [Act.put,q0,q1,q2]
      refine rT 6 (some 48) ?_
      try simp only [Act.put,q0,q1,q2]
      refine rT 7 (some 49) ?_
      try simp only [Act.put,q0,q1,q2]
      refine rT 8 (some 50) ?_
      try simp only [Act.put,q0,q1,q2]
      refine rT 9 (some 51) ?_
      try simp only [Act.put,q0,q1,q2]
      clear hHeld
      refine rR2 10 (some 6) 11 (some 7) (fun K hK=>?_) (fun K hK=>?_)
      ·obtain⟨X,w10,HX,HW,hx10,C10⟩:=C9.out.boxE #[.string ⟨#[]⟩,.bool false,.slice none 0 0,.slice none 0 0] 52
       go_simp
       rw [←HX.out,←HW.out]
       clear HX HW C9
       refine hK.out _ _ ?_ (fun hHeld=>?_)
       ·exact⟨(C10.out.rd 6 rfl),(C10.out.rd 8 rfl),(C10.out.rd 0 rfl).1,(C10.out.rd 0 rfl).2.1,(C10.out.rd 0 rfl).2.2.1,(C10.out.rd 0 rfl).2.2.2,(C10.out.rd 3 rfl).1,(C10.out.rd 3 rfl).2.1,(C10.out.rd 3 rfl).2.2.1,(C10.out.rd 3 rfl).2.2.2⟩
       clear hK K
       try simp only [Act.put,q0,q1,q2]
       clear hHeld
       refine rR1 11 (some 7) (fun K hK=>?_)
       obtain⟨Y,w11,HX,HW,hx11,C11⟩:=C10.out.boxE #[.string ⟨#[]⟩,.bool false,.slice none 0 0,.slice none 0 0] 55
       go_simp
       rw [←HX.out,←HW.out]
       clear HX HW C10
       refine hK.out _ _ ?_ (fun hHeld=>?_)
       ·exact⟨(C11.out.rd 6 rfl),(C11.out.rd 8 rfl),(C11.out.rd 0 rfl).1,(C11.out.rd 0 rfl).2.1,(C11.out.rd 0 rfl).2.2.1,(C11.out.rd 0 rfl).2.2.2,(C11.out.rd 3 rfl).1,(C11.out.rd 3 rfl).2.1,(C11.out.rd 3 rfl).2.2.1,(C11.out.rd 3 rfl).2.2.2⟩
       clear hK K
       try simp only [Act.put,q0,q1,q2]
       clear hHeld
       refine rR1 12 none (fun K hK=>?_)
       rw [if_pos (by rfl)]
       obtain⟨w12,HW,C12⟩:=C11.out.setRowE 1 rfl #[.string c.name,.bool c.actor,.slice pg FX cg,.slice pk MX ck]
       dsimp only [List.set] at C12
       refine wp_store_row _ _ _ rfl X #[.string c.name,.bool c.actor,.slice pg FX cg,.slice pk MX ck] rfl rfl 52 #[.string ⟨#[]⟩,.bool false,.slice none 0 0,.slice none 0 0] (C11.out.b 1 rfl) (by kernel_rfl) rfl (by simp [Value.oneCell']) ?_
       rw [←HW.out]
       clear HW C11
       refine hK.out _ _ ?_ (fun hHeld=>?_)
       ·exact⟨(C12.out.rd 6 rfl),(C12.out.rd 8 rfl),(C12.out.rd 0 rfl).1,(C12.out.rd 0 rfl).2.1,(C12.out.rd 0 rfl).2.2.1,(C12.out.rd 0 rfl).2.2.2,(C12.out.rd 3 rfl).1,(C12.out.rd 3 rfl).2.1,(C12.out.rd 3 rfl).2.2.1,(C12.out.rd 3 rfl).2.2.2⟩
       clear hK K
       simp only [Act.put]
       clear hHeld
       refine rR1 13 none (fun K hK=>?_)
       rw [if_pos (by rfl)]
       obtain⟨w13,HW,C13⟩:=C12.out.setRowE 0 rfl #[.string c.name,.bool c.actor,.slice pf FX cf,.slice pm MX cm]
       dsimp only [List.set] at C13
       refine wp_store_row _ _ _ rfl Y #[.string c.name,.bool c.actor,.slice pf FX cf,.slice pm MX cm] rfl rfl 55 #[.string ⟨#[]⟩,.bool false,.slice none 0 0,.slice none 0 0] (C12.out.b 0 rfl) (by kernel_rfl) rfl (by simp [Value.oneCell']) ?_
       rw [←HW.out]
       clear HW C12
       refine hK.out _ _ ?_ (fun hHeld=>?_)
       ·exact⟨(C13.out.rd 6 rfl),(C13.out.rd 8 rfl),(C13.out.rd 0 rfl).1,(C13.out.rd 0 rfl).2.1,(C13.out.rd 0 rfl).2.2.1,(C13.out.rd 0 rfl).2.2.2,(C13.out.rd 3 rfl).1,(C13.out.rd 3 rfl).2.1,(C13.out.rd 3 rfl).2.2.1,(C13.out.rd 3 rfl).2.2.2⟩
       clear hK K
       simp only [Act.put]
       clear hHeld
       refine wpAnyH_done (by kernel_rfl) ?_ _
       have C14:=Lib.hid (Mz.foldA4 C13.out)
       clear C13
       have C15:=Lib.hid (Mz.foldA4 C14.out)
       clear C14
       have C16:Hid (Mz 0 0 w [] (fun _=>True) [] [] [A4 Y (.string c.name) (.bool c.actor) (.slice pf FX cf) (.slice pm MX cm),A4 X (.string c.name) (.bool c.actor) (.slice pg FX cg) (.slice pk MX ck),B4 b2 (o2+i*4) (.string c.name) (.bool c.actor) (.slice pg FX cg) (.slice pk MX ck),RN (.slice pg FX cg) c.fields,RMm (.slice pk MX ck) x.methods,B4 b1 (o1+i*4) (.string c.name) (.bool c.actor) (.slice pf FX cf) (.slice pm MX cm),RN (.slice pf FX cf) c.fields,RMt (.slice pm MX cm) c.methods,A1 C (.slice (some ⟨b2,o2,none⟩) CN co),RCc (.slice (some ⟨b2,o2,none⟩) CN co) l,A1 P (.slice (some ⟨b1,o1,none⟩) CN cp),RC (.slice (some ⟨b1,o1,none⟩) CN cp) cs] w13):=Lib.hid (C15.out.few (fun r hr=>by simp only [List.mem_cons] at hr ⊢;rcases hr with h|h|h;exact .inr (.inl h);exact .inl h;exact .inr (.inr h)))
       clear C15
       go_wp2_with fail
       go_meet
       exact⟨X,Y,rfl,rfl,C16⟩
      ·obtain⟨Y,w17,HX,HW,hx17,C17⟩:=C9.out.boxE #[.string ⟨#[]⟩,.bool false,.slice none 0 0,.slice none 0 0] 55
       go_simp
       rw [←HX.out,←HW.out]
       clear HX HW C9
       refine hK.out _ _ ?_ (fun hHeld=>?_)
       ·exact⟨(C17.out.rd 6 rfl),(C17.out.rd 8 rfl),(C17.out.rd 0 rfl).1,(C17.out.rd 0 rfl).2.1,(C17.out.rd 0 rfl).2.2.1,(C17.out.rd 0 rfl).2.2.2,(C17.out.rd 3 rfl).1,(C17.out.rd 3 rfl).2.1,(C17.out.rd 3 rfl).2.2.1,(C17.out.rd 3 rfl).2.2.2⟩
       clear hK K
       try simp only [Act.put,q0,q1,q2]
       clear hHeld
       refine rR1 10 (some 6) (fun K hK=>?_)
       obtain⟨X,w18,HX,HW,hx18,C18⟩:=C17.out.boxE #[.string ⟨#[]⟩,.bool false,.slice none 0 0,.slice none 0 0] 52
       go_simp
       rw [←HX.out,←HW.out]
       clear HX HW C17
       refine hK.out _ _ ?_ (fun hHeld=>?_)
       ·exact⟨(C18.out.rd 6 rfl),(C18.out.rd 8 rfl),(C18.out.rd 0 rfl).1,(C18.out.rd 0 rfl).2.1,(C18.out.rd 0 rfl).2.2.1,(C18.out.rd 0 rfl).2.2.2,(C18.out.rd 3 rfl).1,(C18.out.rd 3 rfl).2.1,(C18.out.rd 3 rfl).2.2.1,(C18.out.rd 3 rfl).2.2.2⟩
       clear hK K
       try simp only [Act.put,q0,q1,q2]
       clear hHeld
       refine rR1 12 none (fun K hK=>?_)
       rw [if_pos (by rfl)]
       obtain⟨w19,HW,C19⟩:=C18.out.setRowE 0 rfl #[.string c.name,.bool c.actor,.slice pg FX cg,.slice pk MX ck]
       dsimp only [List.set] at C19
       refine wp_store_row _ _ _ rfl X #[.string c.name,.bool c.actor,.slice pg FX cg,.slice pk MX ck] rfl rfl 52 #[.string ⟨#[]⟩,.bool false,.slice none 0 0,.slice none 0 0] (C18.out.b 0 rfl) (by kernel_rfl) rfl (by simp [Value.oneCell']) ?_
       rw [←HW.out]
       clear HW C18
       refine hK.out _ _ ?_ (fun hHeld=>?_)
       ·exact⟨(C19.out.rd 6 rfl),(C19.out.rd 8 rfl),(C19.out.rd 0 rfl).1,(C19.out.rd 0 rfl).2.1,(C19.out.rd 0 rfl).2.2.1,(C19.out.rd 0 rfl).2.2.2,(C19.out.rd 3 rfl).1,(C19.out.rd 3 rfl).2.1,(C19.out.rd 3 rfl).2.2.1,(C19.out.rd 3 rfl).2.2.2⟩
       clear hK K
       simp only [Act.put]
       clear hHeld
       refine rR1 13 none (fun K hK=>?_)
       rw [if_pos (by rfl)]
       obtain⟨w20,HW,C20⟩:=C19.out.setRowE 1 rfl #[.string c.name,.bool c.actor,.slice pf FX cf,.slice pm MX cm]
       dsimp only [List.set] at C20
       refine wp_store_row _ _ _ rfl Y #[.string c.name,.bool c.actor,.slice pf FX cf,.slice pm MX cm] rfl rfl 55 #[.string ⟨#[]⟩,.bool false,.slice none 0 0,.slice none 0 0] (C19.out.b 1 rfl) (by kernel_rfl) rfl (by simp [Value.oneCell']) ?_
       rw [←HW.out]
       clear HW C19
       refine hK.out _ _ ?_ (fun hHeld=>?_)
       ·exact⟨(C20.out.rd 6 rfl),(C20.out.rd 8 rfl),(C20.out.rd 0 rfl).1,(C20.out.rd 0 rfl).2.1,(C20.out.rd 0 rfl).2.2.1,(C20.out.rd 0 rfl).2.2.2,(C20.out.rd 3 rfl).1,(C20.out.rd 3 rfl).2.1,(C20.out.rd 3 rfl).2.2.1,(C20.out.rd 3 rfl).2.2.2⟩
       clear hK K
       simp only [Act.put]
       clear hHeld
       refine wpAnyH_done (by kernel_rfl) ?_ _
       have C21:=Lib.hid (Mz.foldA4 C20.out)
       clear C20
       have C22:=Lib.hid (Mz.foldA4 C21.out)
       clear C21
       go_wp2_with fail
       go_meet
       exact⟨X,Y,rfl,rfl,C22⟩
     case rest=>
     clear CB
     obtain⟨X,Y,rfl,rfl,CW⟩:=hcut
     obtain⟨w0,hw0⟩:∃q,q=wc:=⟨_,rfl⟩
     rw [←hw0] at CW ⊢
     clear hw0
     have qX:w0.cell? ⟨X,0,none⟩=some (.string c.name)∧w0.cell? ⟨X,1,none⟩=some (.bool c.actor)∧w0.cell? ⟨X,2,none⟩=some (.slice pg FX cg)∧w0.cell? ⟨X,3,none⟩=some (.slice pk MX ck):=(CW.out.rd 1 rfl)
     have qY:w0.cell? ⟨Y,0,none⟩=some (.string c.name)∧w0.cell? ⟨Y,1,none⟩=some (.bool c.actor)∧w0.cell? ⟨Y,2,none⟩=some (.slice pf FX cf)∧w0.cell? ⟨Y,3,none⟩=some (.slice pm MX cm):=(CW.out.rd 0 rfl)
     go_wp2_with fail
     clear qX qY
     have hk:=refNames_any c.fields c.fields pg FX cg pf FX cf w0 HFN.out.symm HFN.out.symm (CW.out.rd 3 rfl) (CW.out.rd 6 rfl)
     rw [decide_eq_true rfl] at hk
     refine hk.mono ?_
     clear hk
     rintro e w23 ⟨rfl,hb9⟩
     have C23:=Lib.hid (Mz.below CW.out hb9)
     clear hb9 CW
     have qX:w23.cell? ⟨X,0,none⟩=some (.string c.name)∧w23.cell? ⟨X,1,none⟩=some (.bool c.actor)∧w23.cell? ⟨X,2,none⟩=some (.slice pg FX cg)∧w23.cell? ⟨X,3,none⟩=some (.slice pk MX ck):=(C23.out.rd 1 rfl)
     have qY:w23.cell? ⟨Y,0,none⟩=some (.string c.name)∧w23.cell? ⟨Y,1,none⟩=some (.bool c.actor)∧w23.cell? ⟨Y,2,none⟩=some (.slice pf FX cf)∧w23.cell? ⟨Y,3,none⟩=some (.slice pm MX cm):=(C23.out.rd 0 rfl)
     go_wp2_with fail
     clear qX qY
     have HLT:=Lib.hid hlt
     clear hlt hi
     go_loopg [8] MX (fun gg s8 wr=>∃k:Nat,s8= .int .i64 k∧k≤MX∧gg=MX -k∧Hid (Mz 0 0 w [] (fun _=>True) [] [] [A4 Y (.string c.name) (.bool c.actor) (.slice pf FX cf) (.slice pm MX cm),A4 X (.string c.name) (.bool c.actor) (.slice pg FX cg) (.slice pk MX ck),B4 b2 (o2+i*4) (.string c.name) (.bool c.actor) (.slice pg FX cg) (.slice pk MX ck),RN (.slice pg FX cg) c.fields,RMm (.slice pk MX ck) x.methods,B4 b1 (o1+i*4) (.string c.name) (.bool c.actor) (.slice pf FX cf) (.slice pm MX cm),RN (.slice pf FX cf) c.fields,RMt (.slice pm MX cm) c.methods,A1 C (.slice (some ⟨b2,o2,none⟩) CN co),RCc (.slice (some ⟨b2,o2,none⟩) CN co) l,A1 P (.slice (some ⟨b1,o1,none⟩) CN cp),RC (.slice (some ⟨b1,o1,none⟩) CN cp) cs] wr))
     case atStart=>exact ⟨0,rfl,Nat.zero_le _,rfl,C23⟩
     case round=>
      clear C23
      obtain⟨k,rfl,hk,rfl,CI⟩:=hrel
      by_cases hlk:k<MX
      ·obtain⟨wm,hw0⟩:∃q,q=wr:=⟨_,rfl⟩
       rw [←hw0] at CI ⊢
       clear hw0
       obtain⟨m,hm⟩:∃m,c.methods[k]? =some m:=⟨_,List.getElem?_eq_getElem (by rw [←HMN.out];exact hlk)⟩
       obtain⟨y,hy,hsm⟩:=HSH.out.all k m hm
       obtain⟨b3,o3,pa,PN,ca,pb,BN,cb,hp3,hb3,hn5,CA⟩:=Mo.tm CI.out 7 rfl hm
       subst hp3
       obtain⟨b4,o4,pi,IN,ci,pn,NN,cn,hp4,hb4,hn6,hn7,hin,hnn,CB⟩:=Mo.cm CA.out 6 rfl hy
       subst hp4
       obtain⟨LT,hLT⟩:∃q,Ck.lets m.body=q:=⟨_,rfl⟩
       have hlo:=hsm.locals
       rw [←hn5,hLT] at hlo
       obtain⟨LO,hLO⟩:∃q,y.locals=q:=⟨_,rfl⟩
       have hpr:=hsm.params
       rw [←hn5] at hpr
       rw [hLO] at hlo CB
       rw [hsm.name,hpr] at CB
       have hsl:=(HSC.out.all m (List.mem_of_getElem? hm)).lets
       rw [←hn5,hLT] at hsl
       have HWR:Hid (IntKind.i64.wrap ((PN:Int)+(LT:Int))=(LO:Int)):=Lib.hid (by rw [IntKind.wrap_i64,hlo];omega)
       have HLT2:=Lib.hid hLT
       have HUSE:=Lib.hid hsm.use
       have HND:=Lib.hid hsm.nodup
       have HIN:=Lib.hid hn6
       have HNN:=Lib.hid hn7
       have HSL:Hid (LT≤1000000):=Lib.hid (by omega)
       have HLK:=Lib.hid hlk
       have HMX:=Lib.hid (⟨hin,hnn⟩:IN≤maxLen∧NN≤maxLen)
       clear hm hy hsm hn5 hn6 hn7 hlo hLO hpr hsl hLT CA CI hin hnn
       have qX:wm.cell? ⟨X,0,none⟩=some (.string c.name)∧wm.cell? ⟨X,1,none⟩=some (.bool c.actor)∧wm.cell? ⟨X,2,none⟩=some (.slice pg FX cg)∧wm.cell? ⟨X,3,none⟩=some (.slice (some ⟨b4,o4,none⟩) MX ck):=(CB.out.rd 6 rfl)
       go_upto_region 19 with fail
       clear qX
       go_cut [9,10] (fun s9 s10 wx=>∃U V:Nat,s9= .pointer (some ⟨U,0,none⟩)∧s10= .pointer (some ⟨V,0,none⟩)∧Hid (Mz 0 0 w [] (fun _=>True) [] [] [A3 V (.string m.name) (.slice pa PN ca) (.slice pb BN cb),A5 U (.string m.name) (.int .i64 PN) (.int .i64 LO) (.slice pi IN ci) (.slice pn NN cn),B5 b4 (o4+k*5) (.string m.name) (.int .i64 PN) (.int .i64 LO) (.slice pi IN ci) (.slice pn NN cn),RI (.slice pi IN ci) y.code,RN (.slice pn NN cn) y.names,B3 b3 (o3+k*3) (.string m.name) (.slice pa PN ca) (.slice pb BN cb),RS (.slice pb BN cb) m.body,A4 Y (.string c.name) (.bool c.actor) (.slice pf FX cf) (.slice (some ⟨b3,o3,none⟩) MX cm),A4 X (.string c.name) (.bool c.actor) (.slice pg FX cg) (.slice (some ⟨b4,o4,none⟩) MX ck),B4 b2 (o2+i*4) (.string c.name) (.bool c.actor) (.slice pg FX cg) (.slice (some ⟨b4,o4,none⟩) MX ck),RN (.slice pg FX cg) c.fields,RMm (.slice (some ⟨b4,o4,none⟩) MX ck) x.methods,B4 b1 (o1+i*4) (.string c.name) (.bool c.actor) (.slice pf FX cf) (.slice (some ⟨b3,o3,none⟩) MX cm),RN (.slice pf FX cf) c.fields,RMt (.slice (some ⟨b3,o3,none⟩) MX cm) c.methods,A1 C (.slice (some ⟨b2,o2,none⟩) CN co),RCc (.slice (some ⟨b2,o2,none⟩) CN co) l,A1 P (.slice (some ⟨b1,o1,none⟩) CN cp),RC (.slice (some ⟨b1,o1,none⟩) CN cp) cs] wx))
       case first=>
        have hi0:(0:Int)≤(k:Int):=by omega
        have hi1:(k:Int)<(MX:Int):=by omega
        obtain⟨w24,HW,C24⟩:=CB.out.drewE
        refine wp_region_held_drew (S:=fun W=>W.cell? ⟨X,0,none⟩=some (.string c.name)∧W.cell? ⟨X,1,none⟩=some (.bool c.actor)∧W.cell? ⟨X,2,none⟩=some (.slice pg FX cg)∧W.cell? ⟨X,3,none⟩=some (.slice (some ⟨b4,o4,none⟩) MX ck)∧W.cell? ⟨Y,0,none⟩=some (.string c.name)∧W.cell? ⟨Y,1,none⟩=some (.bool c.actor)∧W.cell? ⟨Y,2,none⟩=some (.slice pf FX cf)∧W.cell? ⟨Y,3,none⟩=some (.slice (some ⟨b3,o3,none⟩) MX cm)∧W.cell? ⟨b4,o4+k*5,none⟩=some (.string m.name)∧W.cell? ⟨b4,o4+k*5+1,none⟩=some (.int .i64 PN)∧W.cell? ⟨b4,o4+k*5+2,none⟩=some (.int .i64 LO)∧W.cell? ⟨b4,o4+k*5+3,none⟩=some (.slice pi IN ci)∧W.cell? ⟨b4,o4+k*5+4,none⟩=some (.slice pn NN cn)∧W.cell? ⟨b3,o3+k*3,none⟩=some (.string m.name)∧W.cell? ⟨b3,o3+k*3+1,none⟩=some (.slice pa PN ca)∧W.cell? ⟨b3,o3+k*3+2,none⟩=some (.slice pb BN cb)) (by kernel_rfl) (by rw [←HW.out];exact⟨(C24.out.rd 6 rfl).1,(C24.out.rd 6 rfl).2.1,(C24.out.rd 6 rfl).2.2.1,(C24.out.rd 6 rfl).2.2.2,(C24.out.rd 5 rfl).1,(C24.out.rd 5 rfl).2.1,(C24.out.rd 5 rfl).2.2.1,(C24.out.rd 5 rfl).2.2.2,(C24.out.rd 0 rfl).1,(C24.out.rd 0 rfl).2.1,(C24.out.rd 0 rfl).2.2.1,(C24.out.rd 0 rfl).2.2.2.1,(C24.out.rd 0 rfl).2.2.2.2,(C24.out.rd 3 rfl).1,(C24.out.rd 3 rfl).2.1,(C24.out.rd 3 rfl).2.2⟩) (fun hHeld=>?_)
        rw [←HW.out] at hHeld ⊢
        clear HW CB
        refine rT 0 (some 88) ?_
        try simp only [Act.put,q0,q1,q2]
        refine rT 1 (some 89) ?_
        try simp only [Act.put,q0,q1,q2]
        refine rT 2 (some 90) ?_
        try simp only [Act.put,q0,q1,q2]
        refine rT 3 (some 91) ?_
        try simp only [Act.put,q0,q1,q2]
        refine rT 4 (some 92) ?_
        try simp only [Act.put,q0,q1,q2]
        refine rT 5 (some 93) ?_
        try simp only [Act.put,q0,q1,q2]
        refine rT 6 (some 94) ?_
        try simp only [Act.put,q0,q1,q2]
        refine rT 7 (some 95) ?_
        try simp only [Act.put,q0,q1,q2]
        refine rT 8 (some 96) ?_
        try simp only [Act.put,q0,q1,q2]
        refine rT 9 (some 97) ?_
        try simp only [Act.put,q0,q1,q2]
        clear hHeld
        refine rR2 10 (some 9) 11 (some 10) (fun K hK=>?_) (fun K hK=>?_)
        ·obtain⟨U,w25,HX,HW,hx25,C25⟩:=C24.out.boxE #[.string ⟨#[]⟩,.int .i64 0,.int .i64 0,.slice none 0 0,.slice none 0 0] 59
         go_simp
         rw [←HX.out,←HW.out]
         clear HX HW C24
         refine hK.out _ _ ?_ (fun hHeld=>?_)
         ·exact⟨(C25.out.rd 6 rfl).1,(C25.out.rd 6 rfl).2.1,(C25.out.rd 6 rfl).2.2.1,(C25.out.rd 6 rfl).2.2.2,(C25.out.rd 5 rfl).1,(C25.out.rd 5 rfl).2.1,(C25.out.rd 5 rfl).2.2.1,(C25.out.rd 5 rfl).2.2.2,(C25.out.rd 0 rfl).1,(C25.out.rd 0 rfl).2.1,(C25.out.rd 0 rfl).2.2.1,(C25.out.rd 0 rfl).2.2.2.1,(C25.out.rd 0 rfl).2.2.2.2,(C25.out.rd 3 rfl).1,(C25.out.rd 3 rfl).2.1,(C25.out.rd 3 rfl).2.2⟩
         clear hK K
         try simp only [Act.put,q0,q1,q2]
         clear hHeld
         refine rR1 11 (some 10) (fun K hK=>?_)
         obtain⟨V,w26,HX,HW,hx26,C26⟩:=C25.out.boxE #[.string ⟨#[]⟩,.slice none 0 0,.slice none 0 0] 62
         go_simp
         rw [←HX.out,←HW.out]
         clear HX HW C25
         refine hK.out _ _ ?_ (fun hHeld=>?_)
         ·exact⟨(C26.out.rd 6 rfl).1,(C26.out.rd 6 rfl).2.1,(C26.out.rd 6 rfl).2.2.1,(C26.out.rd 6 rfl).2.2.2,(C26.out.rd 5 rfl).1,(C26.out.rd 5 rfl).2.1,(C26.out.rd 5 rfl).2.2.1,(C26.out.rd 5 rfl).2.2.2,(C26.out.rd 0 rfl).1,(C26.out.rd 0 rfl).2.1,(C26.out.rd 0 rfl).2.2.1,(C26.out.rd 0 rfl).2.2.2.1,(C26.out.rd 0 rfl).2.2.2.2,(C26.out.rd 3 rfl).1,(C26.out.rd 3 rfl).2.1,(C26.out.rd 3 rfl).2.2⟩
         clear hK K
         try simp only [Act.put,q0,q1,q2]
         clear hHeld
         refine rR1 12 none (fun K hK=>?_)
         rw [if_pos (by rfl)]
         obtain⟨w27,HW,C27⟩:=C26.out.setRowE 1 rfl #[.string m.name,.int .i64 PN,.int .i64 LO,.slice pi IN ci,.slice pn NN cn]
         dsimp only [List.set] at C27
         refine wp_store_row _ _ _ rfl U #[.string m.name,.int .i64 PN,.int .i64 LO,.slice pi IN ci,.slice pn NN cn] rfl rfl 59 #[.string ⟨#[]⟩,.int .i64 0,.int .i64 0,.slice none 0 0,.slice none 0 0] (C26.out.b 1 rfl) (by kernel_rfl) rfl (by simp [Value.oneCell']) ?_
         rw [←HW.out]
         clear HW C26
         refine hK.out _ _ ?_ (fun hHeld=>?_)
         ·exact⟨(C27.out.rd 6 rfl).1,(C27.out.rd 6 rfl).2.1,(C27.out.rd 6 rfl).2.2.1,(C27.out.rd 6 rfl).2.2.2,(C27.out.rd 5 rfl).1,(C27.out.rd 5 rfl).2.1,(C27.out.rd 5 rfl).2.2.1,(C27.out.rd 5 rfl).2.2.2,(C27.out.rd 0 rfl).1,(C27.out.rd 0 rfl).2.1,(C27.out.rd 0 rfl).2.2.1,(C27.out.rd 0 rfl).2.2.2.1,(C27.out.rd 0 rfl).2.2.2.2,(C27.out.rd 3 rfl).1,(C27.out.rd 3 rfl).2.1,(C27.out.rd 3 rfl).2.2⟩
         clear hK K
         simp only [Act.put]
         clear hHeld
         refine rR1 13 none (fun K hK=>?_)
         rw [if_pos (by rfl)]
         obtain⟨w28,HW,C28⟩:=C27.out.setRowE 0 rfl #[.string m.name,.slice pa PN ca,.slice pb BN cb]
         dsimp only [List.set] at C28
         refine wp_store_row _ _ _ rfl V #[.string m.name,.slice pa PN ca,.slice pb BN cb] rfl rfl 62 #[.string ⟨#[]⟩,.slice none 0 0,.slice none 0 0] (C27.out.b 0 rfl) (by kernel_rfl) rfl (by simp [Value.oneCell']) ?_
         rw [←HW.out]
         clear HW C27
         refine hK.out _ _ ?_ (fun hHeld=>?_)
         ·exact⟨(C28.out.rd 6 rfl).1,(C28.out.rd 6 rfl).2.1,(C28.out.rd 6 rfl).2.2.1,(C28.out.rd 6 rfl).2.2.2,(C28.out.rd 5 rfl).1,(C28.out.rd 5 rfl).2.1,(C28.out.rd 5 rfl).2.2.1,(C28.out.rd 5 rfl).2.2.2,(C28.out.rd 0 rfl).1,(C28.out.rd 0 rfl).2.1,(C28.out.rd 0 rfl).2.2.1,(C28.out.rd 0 rfl).2.2.2.1,(C28.out.rd 0 rfl).2.2.2.2,(C28.out.rd 3 rfl).1,(C28.out.rd 3 rfl).2.1,(C28.out.rd 3 rfl).2.2⟩
         clear hK K
         simp only [Act.put]
         clear hHeld
         refine wpAnyH_done (by kernel_rfl) ?_ _
         have C29:=Lib.hid (Mz.foldA3 C28.out)
         clear C28
         have C30:=Lib.hid (Mz.foldA5 C29.out)
         clear C29
         have C31:Hid (Mz 0 0 w [] (fun _=>True) [] [] [A3 V (.string m.name) (.slice pa PN ca) (.slice pb BN cb),A5 U (.string m.name) (.int .i64 PN) (.int .i64 LO) (.slice pi IN ci) (.slice pn NN cn),B5 b4 (o4+k*5) (.string m.name) (.int .i64 PN) (.int .i64 LO) (.slice pi IN ci) (.slice pn NN cn),RI (.slice pi IN ci) y.code,RN (.slice pn NN cn) y.names,B3 b3 (o3+k*3) (.string m.name) (.slice pa PN ca) (.slice pb BN cb),RS (.slice pb BN cb) m.body,A4 Y (.string c.name) (.bool c.actor) (.slice pf FX cf) (.slice (some ⟨b3,o3,none⟩) MX cm),A4 X (.string c.name) (.bool c.actor) (.slice pg FX cg) (.slice (some ⟨b4,o4,none⟩) MX ck),B4 b2 (o2+i*4) (.string c.name) (.bool c.actor) (.slice pg FX cg) (.slice (some ⟨b4,o4,none⟩) MX ck),RN (.slice pg FX cg) c.fields,RMm (.slice (some ⟨b4,o4,none⟩) MX ck) x.methods,B4 b1 (o1+i*4) (.string c.name) (.bool c.actor) (.slice pf FX cf) (.slice (some ⟨b3,o3,none⟩) MX cm),RN (.slice pf FX cf) c.fields,RMt (.slice (some ⟨b3,o3,none⟩) MX cm) c.methods,A1 C (.slice (some ⟨b2,o2,none⟩) CN co),RCc (.slice (some ⟨b2,o2,none⟩) CN co) l,A1 P (.slice (some ⟨b1,o1,none⟩) CN cp),RC (.slice (some ⟨b1,o1,none⟩) CN cp) cs] w28):=Lib.hid (C30.out.few (fun r hr=>by simp only [List.mem_cons] at hr ⊢;rcases hr with h|h|h;exact .inr (.inl h);exact .inl h;exact .inr (.inr h)))
         clear C30
         go_wp2_with fail
         go_meet
         exact⟨U,V,rfl,rfl,C31⟩
        ·obtain⟨V,w32,HX,HW,hx32,C32⟩:=C24.out.boxE #[.string ⟨#[]⟩,.slice none 0 0,.slice none 0 0] 62
         go_simp
         rw [←HX.out,←HW.out]
         clear HX HW C24
         refine hK.out _ _ ?_ (fun hHeld=>?_)
         ·exact⟨(C32.out.rd 6 rfl).1,(C32.out.rd 6 rfl).2.1,(C32.out.rd 6 rfl).2.2.1,(C32.out.rd 6 rfl).2.2.2,(C32.out.rd 5 rfl).1,(C32.out.rd 5 rfl).2.1,(C32.out.rd 5 rfl).2.2.1,(C32.out.rd 5 rfl).2.2.2,(C32.out.rd 0 rfl).1,(C32.out.rd 0 rfl).2.1,(C32.out.rd 0 rfl).2.2.1,(C32.out.rd 0 rfl).2.2.2.1,(C32.out.rd 0 rfl).2.2.2.2,(C32.out.rd 3 rfl).1,(C32.out.rd 3 rfl).2.1,(C32.out.rd 3 rfl).2.2⟩
         clear hK K
         try simp only [Act.put,q0,q1,q2]
         clear hHeld
         refine rR1 10 (some 9) (fun K hK=>?_)
         obtain⟨U,w33,HX,HW,hx33,C33⟩:=C32.out.boxE #[.string ⟨#[]⟩,.int .i64 0,.int .i64 0,.slice none 0 0,.slice none 0 0] 59
         go_simp
         rw [←HX.out,←HW.out]
         clear HX HW C32
         refine hK.out _ _ ?_ (fun hHeld=>?_)
         ·exact⟨(C33.out.rd 6 rfl).1,(C33.out.rd 6 rfl).2.1,(C33.out.rd 6 rfl).2.2.1,(C33.out.rd 6 rfl).2.2.2,(C33.out.rd 5 rfl).1,(C33.out.rd 5 rfl).2.1,(C33.out.rd 5 rfl).2.2.1,(C33.out.rd 5 rfl).2.2.2,(C33.out.rd 0 rfl).1,(C33.out.rd 0 rfl).2.1,(C33.out.rd 0 rfl).2.2.1,(C33.out.rd 0 rfl).2.2.2.1,(C33.out.rd 0 rfl).2.2.2.2,(C33.out.rd 3 rfl).1,(C33.out.rd 3 rfl).2.1,(C33.out.rd 3 rfl).2.2⟩
         clear hK K
         try simp only [Act.put,q0,q1,q2]
         clear hHeld
         refine rR1 12 none (fun K hK=>?_)
         rw [if_pos (by rfl)]
         obtain⟨w34,HW,C34⟩:=C33.out.setRowE 0 rfl #[.string m.name,.int .i64 PN,.int .i64 LO,.slice pi IN ci,.slice pn NN cn]
         dsimp only [List.set] at C34
         refine wp_store_row _ _ _ rfl U #[.string m.name,.int .i64 PN,.int .i64 LO,.slice pi IN ci,.slice pn NN cn] rfl rfl 59 #[.string ⟨#[]⟩,.int .i64 0,.int .i64 0,.slice none 0 0,.slice none 0 0] (C33.out.b 0 rfl) (by kernel_rfl) rfl (by simp [Value.oneCell']) ?_
         rw [←HW.out]
         clear HW C33
         refine hK.out _ _ ?_ (fun hHeld=>?_)
         ·exact⟨(C34.out.rd 6 rfl).1,(C34.out.rd 6 rfl).2.1,(C34.out.rd 6 rfl).2.2.1,(C34.out.rd 6 rfl).2.2.2,(C34.out.rd 5 rfl).1,(C34.out.rd 5 rfl).2.1,(C34.out.rd 5 rfl).2.2.1,(C34.out.rd 5 rfl).2.2.2,(C34.out.rd 0 rfl).1,(C34.out.rd 0 rfl).2.1,(C34.out.rd 0 rfl).2.2.1,(C34.out.rd 0 rfl).2.2.2.1,(C34.out.rd 0 rfl).2.2.2.2,(C34.out.rd 3 rfl).1,(C34.out.rd 3 rfl).2.1,(C34.out.rd 3 rfl).2.2⟩
         clear hK K
         simp only [Act.put]
         clear hHeld
         refine rR1 13 none (fun K hK=>?_)
         rw [if_pos (by rfl)]
         obtain⟨w35,HW,C35⟩:=C34.out.setRowE 1 rfl #[.string m.name,.slice pa PN ca,.slice pb BN cb]
         dsimp only [List.set] at C35
         refine wp_store_row _ _ _ rfl V #[.string m.name,.slice pa PN ca,.slice pb BN cb] rfl rfl 62 #[.string ⟨#[]⟩,.slice none 0 0,.slice none 0 0] (C34.out.b 1 rfl) (by kernel_rfl) rfl (by simp [Value.oneCell']) ?_
         rw [←HW.out]
         clear HW C34
         refine hK.out _ _ ?_ (fun hHeld=>?_)
         ·exact⟨(C35.out.rd 6 rfl).1,(C35.out.rd 6 rfl).2.1,(C35.out.rd 6 rfl).2.2.1,(C35.out.rd 6 rfl).2.2.2,(C35.out.rd 5 rfl).1,(C35.out.rd 5 rfl).2.1,(C35.out.rd 5 rfl).2.2.1,(C35.out.rd 5 rfl).2.2.2,(C35.out.rd 0 rfl).1,(C35.out.rd 0 rfl).2.1,(C35.out.rd 0 rfl).2.2.1,(C35.out.rd 0 rfl).2.2.2.1,(C35.out.rd 0 rfl).2.2.2.2,(C35.out.rd 3 rfl).1,(C35.out.rd 3 rfl).2.1,(C35.out.rd 3 rfl).2.2⟩
         clear hK K
         simp only [Act.put]
         clear hHeld
         refine wpAnyH_done (by kernel_rfl) ?_ _
         have C36:=Lib.hid (Mz.foldA5 C35.out)
         clear C35
         have C37:=Lib.hid (Mz.foldA3 C36.out)
         clear C36
         go_wp2_with fail
         go_meet
         exact⟨U,V,rfl,rfl,C37⟩
       case rest=>
       clear CB
       obtain⟨U,V,rfl,rfl,CW⟩:=hcut
       obtain⟨w1,hw0⟩:∃q,q=wc:=⟨_,rfl⟩
       rw [←hw0] at CW ⊢
       clear hw0
       go_upto_region 20 with fail
       obtain⟨w38,HW,C38⟩:=CW.out.drewE
       refine wp_region_held_drew (S:=fun W=>W.cell? ⟨U,0,none⟩=some (.string m.name)∧W.cell? ⟨U,1,none⟩=some (.int .i64 PN)∧W.cell? ⟨U,2,none⟩=some (.int .i64 LO)∧W.cell? ⟨U,3,none⟩=some (.slice pi IN ci)∧W.cell? ⟨U,4,none⟩=some (.slice pn NN cn)∧W.cell? ⟨V,0,none⟩=some (.string m.name)∧W.cell? ⟨V,1,none⟩=some (.slice pa PN ca)∧W.cell? ⟨V,2,none⟩=some (.slice pb BN cb)) (by kernel_rfl) (by rw [←HW.out];exact⟨(C38.out.rd 1 rfl).1,(C38.out.rd 1 rfl).2.1,(C38.out.rd 1 rfl).2.2.1,(C38.out.rd 1 rfl).2.2.2.1,(C38.out.rd 1 rfl).2.2.2.2,(C38.out.rd 0 rfl).1,(C38.out.rd 0 rfl).2.1,(C38.out.rd 0 rfl).2.2⟩) (fun hHeld=>?_)
       rw [←HW.out] at hHeld ⊢
       clear HW CW
       refine rT 0 (some 98) ?_
       try simp only [Act.put,q0,q1,q2]
       refine rT 1 (some 99) ?_
       try simp only [Act.put,q0,q1,q2]
       refine rT 2 (some 100) ?_
       try simp only [Act.put,q0,q1,q2]
       refine rT 3 (some 101) ?_
       try simp only [Act.put,q0,q1,q2]
       refine rT 4 (some 102) ?_
       try simp only [Act.put,q0,q1,q2]
       refine rT 5 (some 103) ?_
       try simp only [Act.put,q0,q1,q2]
       refine rT 6 (some 104) ?_
       try simp only [Act.put,q0,q1,q2]
       refine rT 7 (some 105) ?_
       try simp only [Act.put,q0,q1,q2]
       refine rT 8 (some 106) ?_
       try simp only [Act.put,q0,q1,q2]
       refine rT 9 (some 107) ?_
       try simp only [Act.put,q0,q1,q2]
       refine rT 10 (some 108) ?_
       try simp only [Act.put,q0,q1,q2]
       refine rT 11 (some 109) ?_
       try simp only [Act.put,q0,q1,q2]
       refine rT 12 (some 110) ?_
       try simp only [Act.put,q0,q1,q2]
       refine rT 13 (some 111) ?_
       try simp only [Act.put,q0,q1,q2]
       refine rT 14 (some 112) ?_
       try simp only [Act.put,q0,q1,q2]
       refine rT 15 (some 113) ?_
       try simp only [Act.put,q0,q1,q2]
       refine rT 16 (some 114) ?_
       try simp only [Act.put,q0,q1,q2]
       refine rT 17 (some 115) ?_
       try simp only [Act.put,q0,q1,q2]
       refine rT 18 (some 116) ?_
       try simp only [Act.put,q0,q1,q2]
       refine rT 19 (some 117) ?_
       try simp only [Act.put,q0,q1,q2]
       clear hHeld
       refine rR1 20 (some 118) (fun K hK=>?_)
       go_simp
       have hk:=letsR_any (Tr.S.deep.deeps m.body) m.body (.slice pb BN cb) w38 (Nat.le_refl _) (C38.out.rd 6 rfl) (by rw [HLT2.out];exact HSL.out)
       rw [HLT2.out] at hk
       refine hk.mono ?_
       clear hk
       rintro e w39 ⟨rfl,hb9⟩
       have C39:=Lib.hid (Mz.below C38.out hb9)
       clear hb9 C38
       go_wp2_with fail
       refine hK.out _ _ ?_ (fun hHeld=>?_)
       ·exact⟨(C39.out.rd 1 rfl).1,(C39.out.rd 1 rfl).2.1,(C39.out.rd 1 rfl).2.2.1,(C39.out.rd 1 rfl).2.2.2.1,(C39.out.rd 1 rfl).2.2.2.2,(C39.out.rd 0 rfl).1,(C39.out.rd 0 rfl).2.1,(C39.out.rd 0 rfl).2.2⟩
       clear hK K
       try simp only [Act.put,q0,q1,q2]
       have hwr:=HWR.out
       refine rT 21 (some 119) ?_
       try simp only [Act.put,q0,q1,q2]
       refine rT 22 (some 120) ?_
       try simp only [Act.put,q0,q1,q2]
       refine rT 23 (some 121) ?_
       try simp only [Act.put,q0,q1,q2]
       refine wpAnyH_done (by kernel_rfl) ?_ _
       clear hHeld hwr
       have qU:w39.cell? ⟨U,0,none⟩=some (.string m.name)∧w39.cell? ⟨U,1,none⟩=some (.int .i64 PN)∧w39.cell? ⟨U,2,none⟩=some (.int .i64 LO)∧w39.cell? ⟨U,3,none⟩=some (.slice pi IN ci)∧w39.cell? ⟨U,4,none⟩=some (.slice pn NN cn):=(C39.out.rd 1 rfl)
       have qV:w39.cell? ⟨V,0,none⟩=some (.string m.name)∧w39.cell? ⟨V,1,none⟩=some (.slice pa PN ca)∧w39.cell? ⟨V,2,none⟩=some (.slice pb BN cb):=(C39.out.rd 0 rfl)
       go_wp2_with fail
       clear qU qV
       clear hlk hk
       go_loopg [11,12,13] IN (fun gg s11 s12 s13 wr=>∃u j:Nat,s11= .int .i64 u∧s12= .int .i64 j∧j≤IN∧gg=IN -j∧u≤j∧Hid (Co.use (y.code.take j) 0=some u)∧Hid (Mz 0 0 w [] (fun _=>True) [] [] [A3 V (.string m.name) (.slice pa PN ca) (.slice pb BN cb),A5 U (.string m.name) (.int .i64 PN) (.int .i64 LO) (.slice pi IN ci) (.slice pn NN cn),B5 b4 (o4+k*5) (.string m.name) (.int .i64 PN) (.int .i64 LO) (.slice pi IN ci) (.slice pn NN cn),RI (.slice pi IN ci) y.code,RN (.slice pn NN cn) y.names,B3 b3 (o3+k*3) (.string m.name) (.slice pa PN ca) (.slice pb BN cb),RS (.slice pb BN cb) m.body,A4 Y (.string c.name) (.bool c.actor) (.slice pf FX cf) (.slice (some ⟨b3,o3,none⟩) MX cm),A4 X (.string c.name) (.bool c.actor) (.slice pg FX cg) (.slice (some ⟨b4,o4,none⟩) MX ck),B4 b2 (o2+i*4) (.string c.name) (.bool c.actor) (.slice pg FX cg) (.slice (some ⟨b4,o4,none⟩) MX ck),RN (.slice pg FX cg) c.fields,RMm (.slice (some ⟨b4,o4,none⟩) MX ck) x.methods,B4 b1 (o1+i*4) (.string c.name) (.bool c.actor) (.slice pf FX cf) (.slice (some ⟨b3,o3,none⟩) MX cm),RN (.slice pf FX cf) c.fields,RMt (.slice (some ⟨b3,o3,none⟩) MX cm) c.methods,A1 C (.slice (some ⟨b2,o2,none⟩) CN co),RCc (.slice (some ⟨b2,o2,none⟩) CN co) l,A1 P (.slice (some ⟨b1,o1,none⟩) CN cp),RC (.slice (some ⟨b1,o1,none⟩) CN cp) cs] wr))
       case atStart=>exact ⟨0,0,rfl,rfl,Nat.zero_le _,rfl,Nat.le_refl _,Lib.hid (by rw [List.take_zero];rfl),C39⟩
       case round=>
        clear C39
        obtain⟨u,j,rfl,rfl,hj,rfl,huj,HU,CJ⟩:=hrel
        by_cases hlj:j<IN
        ·obtain⟨wj,hw0⟩:∃q,q=wr:=⟨_,rfl⟩
         rw [←hw0] at CJ ⊢
         clear hw0
         have hin:=HMX.out.1
         unfold maxLen at hin
         obtain⟨z,hz⟩:∃z,y.code[j]? =some z:=⟨_,List.getElem?_eq_getElem (by rw [←HIN.out];exact hlj)⟩
         obtain⟨xo,xa,xb⟩:=z
         have hnext:=Co.use_next HUSE.out HU.out hz
         obtain⟨b5,o5,hp5,hb5,hi0,hi1,hi2⟩:=SlI.get (CJ.out.rd 3 rfl) hz
         subst hp5
         have HI:Hid (wj.cell? ⟨b5,o5+j*3,none⟩=some (.int .i64 xo)∧wj.cell? ⟨b5,o5+j*3+1,none⟩=some (.int .i64 xa)):=Lib.hid ⟨hi0,hi1⟩
         have HNX:=Lib.hid hnext
         dsimp only at HNX
         clear hz hnext hi0 hi1 hi2 HU
         have qi:=HI.out
         have qU:wj.cell? ⟨U,0,none⟩=some (.string m.name)∧wj.cell? ⟨U,1,none⟩=some (.int .i64 PN)∧wj.cell? ⟨U,2,none⟩=some (.int .i64 LO)∧wj.cell? ⟨U,3,none⟩=some (.slice (some ⟨b5,o5,none⟩) IN ci)∧wj.cell? ⟨U,4,none⟩=some (.slice pn NN cn):=(CJ.out.rd 1 rfl)
         go_upto_region 27 with fail
         clear qU
         clear qi
         go_cut [148] (fun s148 wx=>s148= .bool (!Co.named xo)∧Hid (wx=wj))
         case first=>
          by_cases ho:xo=6
          ·subst ho
           go_wp2_with fail
           go_meet
           exact⟨rfl,Lib.hid rfl⟩
          have h6:(xo == 6)=false:=beq_eq_false_iff_ne.2 ho
          have hn6:=Lib.hid ho
          clear ho
          by_cases ho:xo=8
          ·subst ho
           go_wp2_with fail
           go_meet
           exact⟨rfl,Lib.hid rfl⟩
          have h8:(xo == 8)=false:=beq_eq_false_iff_ne.2 ho
          have hn8:=Lib.hid ho
          clear ho
          by_cases ho:xo=21
          ·subst ho
           go_wp2_with fail
           go_meet
           exact⟨rfl,Lib.hid rfl⟩
          have h21:(xo == 21)=false:=beq_eq_false_iff_ne.2 ho
          have hn21:=Lib.hid ho
          clear ho
          by_cases ho:xo=24
          ·subst ho
           go_wp2_with fail
           go_meet
           exact⟨rfl,Lib.hid rfl⟩
          have h24:(xo == 24)=false:=beq_eq_false_iff_ne.2 ho
          have HN9:Hid (Co.named xo=false):=Lib.hid (by unfold Co.named;exact decide_eq_false (by have:=hn6.out;have:=hn8.out;have:=hn21.out;omega))
          clear ho
          go_wp2_with fail
          go_meet
          exact⟨by rw [named_bool],Lib.hid rfl⟩
         case rest=>
         obtain⟨rfl,hwx⟩:=hcut
         rw [hwx.out]
         clear hwx
         cases hnm:Co.named xo
         ·have HQ:Hid (Co.use (y.code.take (j+1)) 0=some u):=Lib.hid (HNX.out.1 hnm)
          clear hnm
          go_wp2_with fail
          go_roundg (IN -(j+1))
          case measure=>omega
          case rel=>exact ⟨u,j+1,by go_num,by go_num,by omega,rfl,by omega,Lib.hid HQ.out,CJ⟩
         ·have HQ:=Lib.hid (HNX.out.2 hnm)
          clear hnm
          have hle:=HQ.out.1
          have qi:=HI.out
          by_cases heq:xa=(u:Int)
          ·subst heq
           have HQ2:Hid (Co.use (y.code.take (j+1)) 0=some (u+1)):=Lib.hid (by have h9:=HQ.out.2;rw [if_pos rfl] at h9;exact h9)
           have qU:wj.cell? ⟨U,0,none⟩=some (.string m.name)∧wj.cell? ⟨U,1,none⟩=some (.int .i64 PN)∧wj.cell? ⟨U,2,none⟩=some (.int .i64 LO)∧wj.cell? ⟨U,3,none⟩=some (.slice (some ⟨b5,o5,none⟩) IN ci)∧wj.cell? ⟨U,4,none⟩=some (.slice pn NN cn):=(CJ.out.rd 1 rfl)
           go_wp2_with fail
           clear qU
           go_roundg (IN -(j+1))
           case measure=>omega
           case rel=>exact ⟨u+1,j+1,by go_num,by go_num,by omega,rfl,by omega,Lib.hid HQ2.out,CJ⟩
          ·have HQ2:Hid (Co.use (y.code.take (j+1)) 0=some u):=Lib.hid (by have h9:=HQ.out.2;rw [if_neg heq] at h9;exact h9)
           have hbe:(xa == (u:Int))=false:=beq_eq_false_iff_ne.2 heq
           have qU:wj.cell? ⟨U,0,none⟩=some (.string m.name)∧wj.cell? ⟨U,1,none⟩=some (.int .i64 PN)∧wj.cell? ⟨U,2,none⟩=some (.int .i64 LO)∧wj.cell? ⟨U,3,none⟩=some (.slice (some ⟨b5,o5,none⟩) IN ci)∧wj.cell? ⟨U,4,none⟩=some (.slice pn NN cn):=(CJ.out.rd 1 rfl)
           go_wp2_with fail
           clear qU
           go_roundg (IN -(j+1))
           case measure=>omega
           case rel=>exact ⟨u,j+1,by go_num,by go_num,by omega,rfl,by omega,Lib.hid HQ2.out,CJ⟩
        ·obtain rfl:IN=j:=by omega
         obtain rfl:u=NN:=by have h9:=HU.out;rw [List.take_of_length_le (by rw [←HIN.out];exact Nat.le_refl _),HUSE.out] at h9;injection h9 with h9;rw [HNN.out];exact h9.symm
         clear HU huj hlj hj
         have qU:wr.cell? ⟨U,0,none⟩=some (.string m.name)∧wr.cell? ⟨U,1,none⟩=some (.int .i64 PN)∧wr.cell? ⟨U,2,none⟩=some (.int .i64 LO)∧wr.cell? ⟨U,3,none⟩=some (.slice pi IN ci)∧wr.cell? ⟨U,4,none⟩=some (.slice pn u cn):=(CJ.out.rd 1 rfl)
         go_wp2_with fail
         clear qU
         go_loopg [14,15] u (fun gg s14 s15 wr=>∃j:Nat,s14= .int .i64 j∧j≤u∧gg=u -j∧Hid (Mz 0 0 w [] (fun _=>True) [] [] [A3 V (.string m.name) (.slice pa PN ca) (.slice pb BN cb),A5 U (.string m.name) (.int .i64 PN) (.int .i64 LO) (.slice pi IN ci) (.slice pn u cn),B5 b4 (o4+k*5) (.string m.name) (.int .i64 PN) (.int .i64 LO) (.slice pi IN ci) (.slice pn u cn),RI (.slice pi IN ci) y.code,RN (.slice pn u cn) y.names,B3 b3 (o3+k*3) (.string m.name) (.slice pa PN ca) (.slice pb BN cb),RS (.slice pb BN cb) m.body,A4 Y (.string c.name) (.bool c.actor) (.slice pf FX cf) (.slice (some ⟨b3,o3,none⟩) MX cm),A4 X (.string c.name) (.bool c.actor) (.slice pg FX cg) (.slice (some ⟨b4,o4,none⟩) MX ck),B4 b2 (o2+i*4) (.string c.name) (.bool c.actor) (.slice pg FX cg) (.slice (some ⟨b4,o4,none⟩) MX ck),RN (.slice pg FX cg) c.fields,RMm (.slice (some ⟨b4,o4,none⟩) MX ck) x.methods,B4 b1 (o1+i*4) (.string c.name) (.bool c.actor) (.slice pf FX cf) (.slice (some ⟨b3,o3,none⟩) MX cm),RN (.slice pf FX cf) c.fields,RMt (.slice (some ⟨b3,o3,none⟩) MX cm) c.methods,A1 C (.slice (some ⟨b2,o2,none⟩) CN co),RCc (.slice (some ⟨b2,o2,none⟩) CN co) l,A1 P (.slice (some ⟨b1,o1,none⟩) CN cp),RC (.slice (some ⟨b1,o1,none⟩) CN cp) cs] wr))
         case atStart=>exact ⟨0,rfl,Nat.zero_le _,rfl,CJ⟩
         case round=>
          clear CJ
          obtain⟨j,rfl,hj,rfl,CJ⟩:=hrel
          have hnn:=HMX.out.2
          unfold maxLen at hnn
          by_cases hlj:j<u
          ·have qU:wr.cell? ⟨U,0,none⟩=some (.string m.name)∧wr.cell? ⟨U,1,none⟩=some (.int .i64 PN)∧wr.cell? ⟨U,2,none⟩=some (.int .i64 LO)∧wr.cell? ⟨U,3,none⟩=some (.slice pi IN ci)∧wr.cell? ⟨U,4,none⟩=some (.slice pn u cn):=(CJ.out.rd 1 rfl)
           go_wp2_with fail
           clear qU
           go_loopg [15] j (fun gg s15 wr=>∃t:Nat,s15= .int .i64 t∧t≤j∧gg=j -t∧Hid (Mz 0 0 w [] (fun _=>True) [] [] [A3 V (.string m.name) (.slice pa PN ca) (.slice pb BN cb),A5 U (.string m.name) (.int .i64 PN) (.int .i64 LO) (.slice pi IN ci) (.slice pn u cn),B5 b4 (o4+k*5) (.string m.name) (.int .i64 PN) (.int .i64 LO) (.slice pi IN ci) (.slice pn u cn),RI (.slice pi IN ci) y.code,RN (.slice pn u cn) y.names,B3 b3 (o3+k*3) (.string m.name) (.slice pa PN ca) (.slice pb BN cb),RS (.slice pb BN cb) m.body,A4 Y (.string c.name) (.bool c.actor) (.slice pf FX cf) (.slice (some ⟨b3,o3,none⟩) MX cm),A4 X (.string c.name) (.bool c.actor) (.slice pg FX cg) (.slice (some ⟨b4,o4,none⟩) MX ck),B4 b2 (o2+i*4) (.string c.name) (.bool c.actor) (.slice pg FX cg) (.slice (some ⟨b4,o4,none⟩) MX ck),RN (.slice pg FX cg) c.fields,RMm (.slice (some ⟨b4,o4,none⟩) MX ck) x.methods,B4 b1 (o1+i*4) (.string c.name) (.bool c.actor) (.slice pf FX cf) (.slice (some ⟨b3,o3,none⟩) MX cm),RN (.slice pf FX cf) c.fields,RMt (.slice (some ⟨b3,o3,none⟩) MX cm) c.methods,A1 C (.slice (some ⟨b2,o2,none⟩) CN co),RCc (.slice (some ⟨b2,o2,none⟩) CN co) l,A1 P (.slice (some ⟨b1,o1,none⟩) CN cp),RC (.slice (some ⟨b1,o1,none⟩) CN cp) cs] wr))
           case atStart=>exact ⟨0,rfl,Nat.zero_le _,rfl,CJ⟩
           case round=>
            clear CJ
            obtain⟨t,rfl,hl,rfl,CL⟩:=hrel
            by_cases hll:t<j
            ·obtain⟨wl,hw0⟩:∃q,q=wr:=⟨_,rfl⟩
             rw [←hw0] at CL ⊢
             clear hw0
             obtain⟨sa,hsa⟩:∃z,y.names[t]? =some z:=⟨_,List.getElem?_eq_getElem (by rw [←HNN.out];omega)⟩
             obtain⟨sb,hsb⟩:∃z,y.names[j]? =some z:=⟨_,List.getElem?_eq_getElem (by rw [←HNN.out];exact hlj)⟩
             have hne:¬sa.toList=sb.toList:=names_ne HND.out hsa hsb hll
             have hbe:(sa.toList == sb.toList)=false:=beq_eq_false_iff_ne.2 hne
             obtain⟨b6,o6,hp6,hl6,ha6⟩:=SlStr.get (CL.out.rd 4 rfl) hsa
             obtain⟨b7,o7,hp7,hl7,ha7⟩:=SlStr.get (CL.out.rd 4 rfl) hsb
             subst hp6
             injection hp7 with e7
             injection e7 with e7 e8
             subst e7 e8
             have CN9:=Lib.hid (Mo.add (Mo.add CL.out (r:=A0 b6 (o6+j) (.string sb)) mnA0 ha7) (r:=A0 b6 (o6+t) (.string sa)) mnA0 ha6)
             clear CL ha6 ha7 hsa hsb hl6 hl7
             go_upto_region 40 with fail
             have hj0:(0:Int)≤(j:Int):=by omega
             have hj1:(j:Int)<(u:Int):=by omega
             have hl0:(0:Int)≤(t:Int):=by omega
             have hl1:(t:Int)<(u:Int):=by omega
             obtain⟨w40,HW,C40⟩:=CN9.out.drewE
             refine wp_region_held_drew (S:=fun W=>W.cell? ⟨U,0,none⟩=some (.string m.name)∧W.cell? ⟨U,1,none⟩=some (.int .i64 PN)∧W.cell? ⟨U,2,none⟩=some (.int .i64 LO)∧W.cell? ⟨U,3,none⟩=some (.slice pi IN ci)∧W.cell? ⟨U,4,none⟩=some (.slice (some ⟨b6,o6,none⟩) u cn)∧W.cell? ⟨b6,o6+t,none⟩=some (.string sa)∧W.cell? ⟨b6,o6+j,none⟩=some (.string sb)) (by kernel_rfl) (by rw [←HW.out];exact⟨(C40.out.rd 3 rfl).1,(C40.out.rd 3 rfl).2.1,(C40.out.rd 3 rfl).2.2.1,(C40.out.rd 3 rfl).2.2.2.1,(C40.out.rd 3 rfl).2.2.2.2,(C40.out.rd 0 rfl),(C40.out.rd 1 rfl)⟩) (fun hHeld=>?_)
             rw [←HW.out] at hHeld ⊢
             clear HW CN9
             refine rT 0 (some 184) ?_
             try simp only [Act.put,q0,q1,q2]
             refine rT 1 (some 185) ?_
             try simp only [Act.put,q0,q1,q2]
             refine rT 2 (some 186) ?_
             try simp only [Act.put,q0,q1,q2]
             refine rT 3 (some 187) ?_
             try simp only [Act.put,q0,q1,q2]
             refine rT 4 (some 188) ?_
             try simp only [Act.put,q0,q1,q2]
             refine rT 5 (some 189) ?_
             try simp only [Act.put,q0,q1,q2]
             refine rT 6 (some 190) ?_
             try simp only [Act.put,q0,q1,q2]
             refine rT 7 (some 191) ?_
             try simp only [Act.put,q0,q1,q2]
             refine rT 8 (some 192) ?_
             try simp only [Act.put,q0,q1,q2]
             refine rT 9 (some 193) ?_
             try simp only [Act.put,q0,q1,q2]
             refine rT 10 (some 194) ?_
             try simp only [Act.put,q0,q1,q2]
             refine wpAnyH_done (by kernel_rfl) ?_ _
             clear hHeld
             go_wp2_with fail
             go_roundg (j -(t+1))
             case measure=>omega
             case rel=>exact ⟨t+1,by go_num,by omega,rfl,Lib.hid (C40.out.ot.ot)⟩
            ·obtain rfl:j=t:=by omega
             go_wp2_with fail
             go_roundg (u -(j+1))
             case measure=>omega
             case rel=>exact ⟨j+1,by go_num,by omega,rfl,CL⟩
          ·obtain rfl:u=j:=by omega
           have hlk:=HLK.out
           have hmb:=HMB.out
           have qX:wr.cell? ⟨X,0,none⟩=some (.string c.name)∧wr.cell? ⟨X,1,none⟩=some (.bool c.actor)∧wr.cell? ⟨X,2,none⟩=some (.slice pg FX cg)∧wr.cell? ⟨X,3,none⟩=some (.slice (some ⟨b4,o4,none⟩) MX ck):=(CJ.out.rd 8 rfl)
           have qU:wr.cell? ⟨U,0,none⟩=some (.string m.name)∧wr.cell? ⟨U,1,none⟩=some (.int .i64 PN)∧wr.cell? ⟨U,2,none⟩=some (.int .i64 LO)∧wr.cell? ⟨U,3,none⟩=some (.slice pi IN ci)∧wr.cell? ⟨U,4,none⟩=some (.slice pn u cn):=(CJ.out.rd 1 rfl)
           go_wp2_with fail
           clear qX qU
           go_roundg (MX -(k+1))
           case measure=>omega
           case rel=>exact ⟨k+1,by go_num,by omega,rfl,Lib.hid (CJ.out.ot.ot.ot.ot.ot.ot.ot)⟩
      ·obtain rfl:MX=k:=by omega
       have hlt:=HLT.out
       have hcl:=HCL.out
       unfold maxLen at hcl
       have qX:wr.cell? ⟨X,0,none⟩=some (.string c.name)∧wr.cell? ⟨X,1,none⟩=some (.bool c.actor)∧wr.cell? ⟨X,2,none⟩=some (.slice pg FX cg)∧wr.cell? ⟨X,3,none⟩=some (.slice pk MX ck):=(CI.out.rd 1 rfl)
       have qP:wr.cell? ⟨P,0,none⟩=some (.slice (some ⟨b1,o1,none⟩) CN cp):=(CI.out.rd 10 rfl)
       have qC:wr.cell? ⟨C,0,none⟩=some (.slice (some ⟨b2,o2,none⟩) CN co):=(CI.out.rd 8 rfl)
       go_wp2_with fail
       clear qX qP qC
       go_roundg (CN -(i+1))
       case measure=>omega
       case rel=>exact ⟨i+1,by go_num,by omega,rfl,Lib.hid (CI.out.ot.ot.ot.ot.ot.ot.ot.ot)⟩
    ·obtain rfl:CN=i:=by omega
     have qC:wr.cell? ⟨C,0,none⟩=some (.slice po CN co):=(CR.out.rd 0 rfl)
     have qP:wr.cell? ⟨P,0,none⟩=some (.slice pp CN cp):=(CR.out.rd 2 rfl)
     go_wp2_with fail
     clear qC qP
     go_ret
     exact⟨rfl,CR.out.gr.fresh⟩
  ·have hn0:n≠0:=by
    rcases hbad with ⟨r,hr⟩|⟨_,_,rfl⟩
    ·exact(Co.check_pos hr).1
    ·omega
   have hnb:((n:Int) == 0)=false:=beq_eq_false_iff_ne.2 (by omega)
   clear hbad hn0
   have CE6:=Lib.hid (Mz.below C5.out hb9)
   clear hb9 C5
   obtain⟨C,w41,HX,HW,hx41,C41⟩:=CE6.out.boxE #[.slice none 0 0] 29
   go_upto_region 6 with fail
   rw [←HX.out,←HW.out]
   clear HX HW CE6
   have C42:=Lib.hid (Mz.foldA1 C41.out)
   clear C41
   go_wp2_with fail
   go_ret
   exact⟨rfl,C42.out.gr.fresh⟩
end Cw
end Go.Proofs.YtcnmfcgmnkncaaaGreatDoor
