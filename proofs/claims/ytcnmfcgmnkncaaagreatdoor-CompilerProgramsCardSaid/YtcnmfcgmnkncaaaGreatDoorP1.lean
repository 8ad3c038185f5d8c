/-
  CoMem, CoObs, CgMethQ, CgPost, CgSameP, CgProgm, CoLawProg.
-/
import Derived.Test.YtcnmfcgmnkncaaaGreatDoorX35
import Derived.Test.YtcnmfcgmnkncaaaGreatDoorX41
import Derived.Test.YtcnmfcgmnkncaaaGreatDoorX44
import Derived.Test.YtcnmfcgmnkncaaaGreatDoorX46
set_option maxRecDepth 100000
set_option maxHeartbeats 40000000
open Go.Proofs.Tryz
namespace Go.Proofs.YtcnmfcgmnkncaaaGreatDoor
namespace Cw
open Go.RowKit Go.Maps Pw
theorem RowOk.wk {α:Type} {f:α->List Value} {k:Nat} {t:TypeId} {ok:World->α->Prop} {B:Nat} {l l':List Nat} {W:World} {v:Value} {tr:List α} (hmono:Mono ok) (h:RowOk f k t ok B l W v tr) (hw:∀q∈l',q<B\/q∈l):RowOk f k t ok B l' W v tr:=
 ⟨h.own,fun x hx=>hmono _ _ _ (zEV (fun q _ hm=>by
  rcases hm with hm|hm
  ·exact .inl hm
  ·rcases kU.1 hm with hm|hm
   ·rcases hw q hm with h2|h2
    ·exact .inl h2
    ·exact .inr (kU.2 (.inl h2))
   ·exact .inr (kU.2 (.inr hm)))) (h.rd x hx),fun q hq e=>by
  rcases hw q hq with h2|h2
  ·have:=(h.ge e).1;omega
  ·exact h.nin q h2 e⟩
abbrev A4 (b:Nat) (x0 x1 x2 x3:Value) (U:World):Prop:=U.cell? ⟨b,0,none⟩=some (x0)/\U.cell? ⟨b,1,none⟩=some (x1)/\U.cell? ⟨b,2,none⟩=some (x2)/\U.cell? ⟨b,3,none⟩=some (x3)
theorem mnA4 {b:Nat} {x0 x1 x2 x3:Value}:Mn (A4 b x0 x1 x2 x3):=fun _ _ hi h=>⟨hi.2 _ _ _ h.1,hi.2 _ _ _ h.2.1,hi.2 _ _ _ h.2.2.1,hi.2 _ _ _ h.2.2.2⟩
theorem Mz.foldA4 {w W:World} {bs:List Bk} {os:List (World->Prop)} {X:Nat} {x0 x1 x2 x3:Value} {t:TypeId} (h:Mz 0 0 w [] (fun _=>True) [] ((X,#[x0,x1,x2,x3],t)::bs) os W):Mz 0 0 w [] (fun _=>True) [] bs (A4 X x0 x1 x2 x3::os) W:=h.fold mnA4 (fun _ hU _=>⟨zB hU (j:=0) rfl,zB hU (j:=1) rfl,zB hU (j:=2) rfl,zB hU (j:=3) rfl⟩)
theorem zLU {w W:World} {l:List Nat} (hb:Below w.heap.size w W) (hl:∀q∈l,w.heap.size<=q):Inc w (hide (upL 0 l) W):=⟨by rw [zAW];exact hb.size,fun b o v hv=>by
 have hbl:=zAR hv;rw [zBB (zCE (kO _) (fun hm=>by have:=hl b hm;omega))];exact zA hb hv⟩
def PR (cs:List Tr.C):Int × List Co.Cc->Prop:=fun x=>
 (∃n r,Ck.check cs=n::r/\x=((n:Int),[]))\/(Ck.check cs= []/\((∃l,Co.ccsOf cs cs=some l/\x=(0,l))\/(Co.ccsOf cs cs=none/\x=(8,[]))))
theorem pr_fun {cs:List Tr.C} {x y:Int × List Co.Cc} (h:PR cs x) (h2:PR cs y):x=y:=by
 rcases h with ⟨n,r,h,rfl⟩|⟨h,⟨l,hl,rfl⟩|⟨hl,rfl⟩⟩
 ·rcases h2 with ⟨n2,r2,h2,rfl⟩|⟨h2,_⟩
  ·rw [h] at h2;cases h2;rfl
  ·rw [h] at h2;cases h2
 ·rcases h2 with ⟨n2,r2,h2,rfl⟩|⟨_,⟨l2,hl2,rfl⟩|⟨hl2,rfl⟩⟩
  ·rw [h] at h2;cases h2
  ·rw [hl] at hl2;cases hl2;rfl
  ·rw [hl] at hl2;cases hl2
 ·rcases h2 with ⟨n2,r2,h2,rfl⟩|⟨_,⟨l2,hl2,rfl⟩|⟨hl2,rfl⟩⟩
  ·rw [h] at h2;cases h2
  ·rw [hl] at hl2;cases hl2
  ·rfl
theorem zTH {V:Nat} {cs:List Tr.C} {w w':World} {e:Ending} (h:PPv V cs w e w'):Below w.heap.size w w'/\∃E l p c,e= .returned (.tuple #[.agg #[.slice p l.length c],.int .i64 E])/\SlCc w' (.slice p l.length c) l/\PR cs (E,l):=by
 obtain⟨hb,v,⟨hck,l,hl,rfl,hs⟩|⟨rfl,n,rfl,⟨r,hck⟩|⟨hck,hl,rfl⟩⟩⟩:=h
 ·obtain⟨p,c,rfl,_⟩:=hs.form;exact⟨hb,0,l,p,c,rfl,hs.inc zBL,.inr ⟨hck,.inl ⟨l,hl,rfl⟩⟩⟩
 ·exact⟨hb,n,[],none,0,rfl,zJ3 _ _ _,.inl ⟨n,r,hck,rfl⟩⟩
 ·exact⟨hb,8,[],none,0,rfl,zJ3 _ _ _,.inr ⟨hck,.inr ⟨hl,rfl⟩⟩⟩
theorem zVN (l:List Co.Cc) (v1 v2:Value) (w:World) (h1:SlCc w v1 l) (h2:SlCc w v2 l):
 Calls prog 14 #[.agg #[v1],.agg #[v2]] w fun e w'=>e= .returned (.bool true)/\Below w.heap.size w w':=by
 have hlm:=h1.len;unfold maxLen at hlm;obtain⟨pa,ca,rfl,_⟩:=h1.form;obtain⟨pb,cb,rfl,_⟩:=h2.form;obtain⟨LN,hLN⟩:∃q,l.length=q:=⟨_,rfl⟩;rw [hLN] at h1 h2 hlm |-;have HLN:=zh hLN;have C0:=zh (Mo.add (Mo.add (Mo.start w) (r:=RCc (.slice pb LN cb) l) rcc_mn h2) (r:=RCc (.slice pa LN ca) l) rcc_mn h1);clear h1 h2 hLN;obtain⟨A,w1,HX1,HW1,hx1,C1⟩:=C0.boxE #[.slice pa LN ca] 29;obtain⟨B,w2,HX2,HW2,hx2,C2⟩:=C1.boxE #[.slice pb LN cb] 29;have HBA:Hid (B=A+1):=zh (by rw [HX2.out,HW1.out,HX1.out];simp);go_in;go_upto_region 1 with fail;rw [<-HX1.out,<-HW1.out,<-HBA.out,<-HW2.out];clear HX1 HW1 HX2 HW2 HBA C0 C1;have CA:=zh (Mz.foldA1 C2);have CB:=zh (Mz.foldA1 CA);clear C2 CA;have qA:=(CB.rd 0 rfl);have qB:=(CB.rd 1 rfl);go_wp2_with fail;clear qA qB
 go_loopg [5] LN (fun gg s5 wr=>∃j:Nat,s5= .int .i64 j/\j<=LN/\gg=LN -j/\Hid (Mz 0 0 w [] (fun _=>True) [] [] [A1 A (.slice pa LN ca),A1 B (.slice pb LN cb),RCc (.slice pa LN ca) l,RCc (.slice pb LN cb) l] wr))
 case atStart=>exact ⟨0,rfl,kO _,rfl,CB⟩
 case round=>
  clear CB;obtain⟨j,rfl,hj,rfl,CR⟩:=hrel;obtain⟨w_,hw_⟩:∃q,q=wr:=⟨_,rfl⟩;rw [<-hw_] at CR |-;clear hw_;by_cases hlt:j<LN
  ·obtain⟨x,hx⟩:∃x,l[j]? =some x:=⟨_,kB (by rw [HLN.out];exact hlt)⟩;obtain⟨b1,o1,pf,FN,cf,pm,MN,cm,hp1,_,hn1,hn2,CX⟩:=Mo.cc CR 2 rfl hx;subst hp1;obtain⟨b2,o2,pg,FX,cg,pk,MX,ck,hp2,_,hn3,hn4,CY⟩:=Mo.cc CX 6 rfl hx;subst hp2;obtain rfl:FX=FN:=by omega
   obtain rfl:MX=MN:=by omega
   have HFN:=zh hn1;have HMN:=zh hn2;have HML:Hid (MX<=maxLen):=zh (by have h9:=SlMm.len (CX.rd 2 rfl);rw [<-hn2] at h9;exact h9);clear hx hn1 hn2 hn3 hn4 CX CR;have hne:(x.name.toList != x.name.toList)=false:=(by simp);have hnb:(x.actor != x.actor)=false:=(by simp);have qA:=(CY.rd 6 rfl);have qB:=(CY.rd 7 rfl);go_upto_region 6 with fail;clear qA qB
   go_cut [6,7] (fun s6 s7 wx=>∃X Y:Nat,s6= .pointer (some ⟨X,0,none⟩)/\s7= .pointer (some ⟨Y,0,none⟩)/\Hid (Mz 0 0 w [] (fun _=>True) [] [] [A4 Y (.string x.name) (.bool x.actor) (.slice pg FX cg) (.slice pk MX ck),A4 X (.string x.name) (.bool x.actor) (.slice pf FX cf) (.slice pm MX cm),B4 b2 (o2+j*4) (.string x.name) (.bool x.actor) (.slice pg FX cg) (.slice pk MX ck),RN (.slice pg FX cg) x.fields,RMm (.slice pk MX ck) x.methods,B4 b1 (o1+j*4) (.string x.name) (.bool x.actor) (.slice pf FX cf) (.slice pm MX cm),RN (.slice pf FX cf) x.fields,RMm (.slice pm MX cm) x.methods,A1 A (.slice (some ⟨b1,o1,none⟩) LN ca),A1 B (.slice (some ⟨b2,o2,none⟩) LN cb),RCc (.slice (some ⟨b1,o1,none⟩) LN ca) l,RCc (.slice (some ⟨b2,o2,none⟩) LN cb) l] wx))
   case first=>
    have hj0:(0:Int)<=(j:Int):=(by omega);have hj1:(j:Int)<(LN:Int):=(by omega);obtain⟨w3,HW,C3⟩:=CY.drewE;refine wp_region_held_drew (S:=fun W=>A1 A (.slice (some ⟨b1,o1,none⟩) LN ca) W/\A1 B (.slice (some ⟨b2,o2,none⟩) LN cb) W/\B4 b1 (o1+j*4) (.string x.name) (.bool x.actor) (.slice pf FX cf) (.slice pm MX cm) W/\B4 b2 (o2+j*4) (.string x.name) (.bool x.actor) (.slice pg FX cg) (.slice pk MX ck) W) (by kernel_rfl) (by rw [<-HW.out];exact⟨(C3.rd 6 rfl),(C3.rd 7 rfl),(C3.rd 3 rfl),(C3.rd 0 rfl)⟩) (fun hH=>?_);rw [<-HW.out] at hH |-;clear HW CY;refine rU 0 (some 23) ?_;refine rU 1 (some 24) ?_;refine rU 2 (some 25) ?_;refine rU 3 (some 26) ?_;refine rU 4 (some 27) ?_;refine rU 5 (some 28) ?_;refine rU 6 (some 29) ?_;refine rU 7 (some 30) ?_;refine rU 8 (some 31) ?_;refine rU 9 (some 32) ?_;clear hH;refine rR2 10 (some 6) 11 (some 7) (fun K hK=>?_) (fun K hK=>?_)
    ·obtain⟨X,w4,HX,HW,hx4,C4⟩:=C3.boxE #[.string ⟨#[]⟩,.bool false,.slice none 0 0,.slice none 0 0] 52;go_simp;rw [<-HX.out,<-HW.out];clear HX HW C3;refine hK _ _ ?_ (fun hH=>?_)
     ·exact⟨(C4.rd 6 rfl),(C4.rd 7 rfl),(C4.rd 3 rfl),(C4.rd 0 rfl)⟩
     clear hK K
     try simp only [Act.put,q0,q1,q2]
     clear hH;refine rR1 11 (some 7) (fun K hK=>?_);obtain⟨Y,w5,HX,HW,hx5,C5⟩:=C4.boxE #[.string ⟨#[]⟩,.bool false,.slice none 0 0,.slice none 0 0] 52;go_simp;rw [<-HX.out,<-HW.out];clear HX HW C4;refine hK _ _ ?_ (fun hH=>?_)
     ·exact⟨(C5.rd 6 rfl),(C5.rd 7 rfl),(C5.rd 3 rfl),(C5.rd 0 rfl)⟩
     clear hK K
     try simp only [Act.put,q0,q1,q2]
     clear hH;refine rR1 12 none (fun K hK=>?_);rw [kD (by rfl)];obtain⟨w6,HW,C6⟩:=C5.setRowE 1 rfl #[.string x.name,.bool x.actor,.slice pf FX cf,.slice pm MX cm];dsimp only [List.set] at C6;refine wp_store_row _ _ _ rfl X #[.string x.name,.bool x.actor,.slice pf FX cf,.slice pm MX cm] rfl rfl 52 #[.string ⟨#[]⟩,.bool false,.slice none 0 0,.slice none 0 0] (C5.b 1 rfl) (by kernel_rfl) rfl (by simp [Value.oneCell']) ?_;rw [<-HW.out];clear HW C5;refine hK _ _ ?_ (fun hH=>?_)
     ·exact⟨(C6.rd 6 rfl),(C6.rd 7 rfl),(C6.rd 3 rfl),(C6.rd 0 rfl)⟩
     clear hK K;simp only [Act.put];clear hH;refine rR1 13 none (fun K hK=>?_);rw [kD (by rfl)];obtain⟨w7,HW,C7⟩:=C6.setRowE 0 rfl #[.string x.name,.bool x.actor,.slice pg FX cg,.slice pk MX ck];dsimp only [List.set] at C7;refine wp_store_row _ _ _ rfl Y #[.string x.name,.bool x.actor,.slice pg FX cg,.slice pk MX ck] rfl rfl 52 #[.string ⟨#[]⟩,.bool false,.slice none 0 0,.slice none 0 0] (C6.b 0 rfl) (by kernel_rfl) rfl (by simp [Value.oneCell']) ?_;rw [<-HW.out];clear HW C6;refine hK _ _ ?_ (fun hH=>?_)
     ·exact⟨(C7.rd 6 rfl),(C7.rd 7 rfl),(C7.rd 3 rfl),(C7.rd 0 rfl)⟩
     clear hK K;simp only [Act.put];clear hH;refine wpAnyH_done (by kernel_rfl) ?_ _;have C8:=zh (Mz.foldA4 C7);clear C7;have C9:=zh (Mz.foldA4 C8);clear C8;have C10:Hid (Mz 0 0 w [] (fun _=>True) [] [] [A4 Y (.string x.name) (.bool x.actor) (.slice pg FX cg) (.slice pk MX ck),A4 X (.string x.name) (.bool x.actor) (.slice pf FX cf) (.slice pm MX cm),B4 b2 (o2+j*4) (.string x.name) (.bool x.actor) (.slice pg FX cg) (.slice pk MX ck),RN (.slice pg FX cg) x.fields,RMm (.slice pk MX ck) x.methods,B4 b1 (o1+j*4) (.string x.name) (.bool x.actor) (.slice pf FX cf) (.slice pm MX cm),RN (.slice pf FX cf) x.fields,RMm (.slice pm MX cm) x.methods,A1 A (.slice (some ⟨b1,o1,none⟩) LN ca),A1 B (.slice (some ⟨b2,o2,none⟩) LN cb),RCc (.slice (some ⟨b1,o1,none⟩) LN ca) l,RCc (.slice (some ⟨b2,o2,none⟩) LN cb) l] w7):=zh (C9.few (fun r hr=>by simp only [kV] at hr |-;rcases hr with h|h|h;exact .inr (.inl h);exact .inl h;exact .inr (.inr h)));clear C9;go_wp2;go_meet;exact⟨X,Y,rfl,rfl,C10⟩
    ·obtain⟨Y,w11,HX,HW,hx11,C11⟩:=C3.boxE #[.string ⟨#[]⟩,.bool false,.slice none 0 0,.slice none 0 0] 52;go_simp;rw [<-HX.out,<-HW.out];clear HX HW C3;refine hK _ _ ?_ (fun hH=>?_)
     ·exact⟨(C11.rd 6 rfl),(C11.rd 7 rfl),(C11.rd 3 rfl),(C11.rd 0 rfl)⟩
     clear hK K
     try simp only [Act.put,q0,q1,q2]
     clear hH;refine rR1 10 (some 6) (fun K hK=>?_);obtain⟨X,w12,HX,HW,hx12,C12⟩:=C11.boxE #[.string ⟨#[]⟩,.bool false,.slice none 0 0,.slice none 0 0] 52;go_simp;rw [<-HX.out,<-HW.out];clear HX HW C11;refine hK _ _ ?_ (fun hH=>?_)
     ·exact⟨(C12.rd 6 rfl),(C12.rd 7 rfl),(C12.rd 3 rfl),(C12.rd 0 rfl)⟩
     clear hK K
     try simp only [Act.put,q0,q1,q2]
     clear hH;refine rR1 12 none (fun K hK=>?_);rw [kD (by rfl)];obtain⟨w13,HW,C13⟩:=C12.setRowE 0 rfl #[.string x.name,.bool x.actor,.slice pf FX cf,.slice pm MX cm];dsimp only [List.set] at C13;refine wp_store_row _ _ _ rfl X #[.string x.name,.bool x.actor,.slice pf FX cf,.slice pm MX cm] rfl rfl 52 #[.string ⟨#[]⟩,.bool false,.slice none 0 0,.slice none 0 0] (C12.b 0 rfl) (by kernel_rfl) rfl (by simp [Value.oneCell']) ?_;rw [<-HW.out];clear HW C12;refine hK _ _ ?_ (fun hH=>?_)
     ·exact⟨(C13.rd 6 rfl),(C13.rd 7 rfl),(C13.rd 3 rfl),(C13.rd 0 rfl)⟩
     clear hK K;simp only [Act.put];clear hH;refine rR1 13 none (fun K hK=>?_);rw [kD (by rfl)];obtain⟨w14,HW,C14⟩:=C13.setRowE 1 rfl #[.string x.name,.bool x.actor,.slice pg FX cg,.slice pk MX ck];dsimp only [List.set] at C14;refine wp_store_row _ _ _ rfl Y #[.string x.name,.bool x.actor,.slice pg FX cg,.slice pk MX ck] rfl rfl 52 #[.string ⟨#[]⟩,.bool false,.slice none 0 0,.slice none 0 0] (C13.b 1 rfl) (by kernel_rfl) rfl (by simp [Value.oneCell']) ?_;rw [<-HW.out];clear HW C13;refine hK _ _ ?_ (fun hH=>?_)
     ·exact⟨(C14.rd 6 rfl),(C14.rd 7 rfl),(C14.rd 3 rfl),(C14.rd 0 rfl)⟩
     clear hK K;simp only [Act.put];clear hH;refine wpAnyH_done (by kernel_rfl) ?_ _;have C15:=zh (Mz.foldA4 C14);clear C14;have C16:=zh (Mz.foldA4 C15);clear C15;go_wp2;go_meet;exact⟨X,Y,rfl,rfl,C16⟩
   case rest=>
   clear CY;obtain⟨X,Y,rfl,rfl,CW⟩:=hcut;obtain⟨w0,hw0⟩:∃q,q=wc:=⟨_,rfl⟩;rw [<-hw0] at CW |-;clear hw0;have qX:=(CW.rd 1 rfl);have qY:=(CW.rd 0 rfl);go_wp2_with fail;clear qX qY;have hk:=zK8 x.fields pf pg FX cf cg w0 HFN.symm (CW.rd 6 rfl) (CW.rd 3 rfl);refine hk.mono ?_;clear hk;rintro e w17 ⟨rfl,hb9⟩;have C17:=zh (Mz.below CW hb9);clear hb9 CW;have qX:=(C17.rd 1 rfl);have qY:=(C17.rd 0 rfl);go_wp2_with fail;clear qX qY;clear hne hnb;have HLT:=zh hlt;clear hlt hj
   go_loopg [8] MX (fun gg s8 wr=>∃k:Nat,s8= .int .i64 k/\k<=MX/\gg=MX -k/\Hid (Mz 0 0 w [] (fun _=>True) [] [] [A4 Y (.string x.name) (.bool x.actor) (.slice pg FX cg) (.slice pk MX ck),A4 X (.string x.name) (.bool x.actor) (.slice pf FX cf) (.slice pm MX cm),B4 b2 (o2+j*4) (.string x.name) (.bool x.actor) (.slice pg FX cg) (.slice pk MX ck),RN (.slice pg FX cg) x.fields,RMm (.slice pk MX ck) x.methods,B4 b1 (o1+j*4) (.string x.name) (.bool x.actor) (.slice pf FX cf) (.slice pm MX cm),RN (.slice pf FX cf) x.fields,RMm (.slice pm MX cm) x.methods,A1 A (.slice (some ⟨b1,o1,none⟩) LN ca),A1 B (.slice (some ⟨b2,o2,none⟩) LN cb),RCc (.slice (some ⟨b1,o1,none⟩) LN ca) l,RCc (.slice (some ⟨b2,o2,none⟩) LN cb) l] wr))
   case atStart=>exact ⟨0,rfl,kO _,rfl,C17⟩
   case round=>
    clear C17;obtain⟨k,rfl,hk,rfl,CI⟩:=hrel;obtain⟨wm,hw0⟩:∃q,q=wr:=⟨_,rfl⟩;rw [<-hw0] at CI |-;clear hw0;by_cases hlk:k<MX
    ·obtain⟨y,hy⟩:∃y,x.methods[k]? =some y:=⟨_,kB (by rw [<-HMN.out];exact hlk)⟩;obtain⟨b3,o3,pi,IN,ci,pn,NN,cn,hp3,_,hr1,hr2,_,_,CX⟩:=Mo.cm CI 7 rfl hy;subst hp3;obtain⟨b4,o4,pu,IU,cu,pv,NV,cv,hp4,_,hr3,hr4,_,_,CY⟩:=Mo.cm CX 7 rfl hy;subst hp4;obtain rfl:IU=IN:=hr3.trans hr1.symm;obtain rfl:NV=NN:=hr4.trans hr2.symm;clear hy CX CI hr1 hr2 hr3 hr4;have hk0:(0:Int)<=(k:Int):=(by omega);have hk1:(k:Int)<(MX:Int):=(by omega);have qX:=(CY.rd 7 rfl);go_upto_region 12 with fail;clear qX;obtain⟨w18,HW,C18⟩:=CY.drewE;refine wp_region_held_drew (S:=fun W=>A4 X (.string x.name) (.bool x.actor) (.slice pf FX cf) (.slice (some ⟨b3,o3,none⟩) MX cm) W/\A4 Y (.string x.name) (.bool x.actor) (.slice pg FX cg) (.slice (some ⟨b4,o4,none⟩) MX ck) W/\B5 b3 (o3+k*5) (.string y.name) (.int .i64 y.params) (.int .i64 y.locals) (.slice pi IU ci) (.slice pn NV cn) W/\B5 b4 (o4+k*5) (.string y.name) (.int .i64 y.params) (.int .i64 y.locals) (.slice pu IU cu) (.slice pv NV cv) W) (by kernel_rfl) (by rw [<-HW.out];exact⟨(C18.rd 7 rfl),(C18.rd 6 rfl),(C18.rd 3 rfl),(C18.rd 0 rfl)⟩) (fun hH=>?_);rw [<-HW.out] at hH |-;clear HW CY;refine rU 0 (some 69) ?_;refine rU 1 (some 70) ?_;refine rU 2 (some 71) ?_;refine rU 3 (some 72) ?_;refine rU 4 (some 73) ?_;refine rU 5 (some 74) ?_;refine rU 6 (some 75) ?_;refine rU 7 (some 76) ?_;refine rU 8 (some 77) ?_;refine rU 9 (some 78) ?_;clear hH;refine rR1 10 (some 79) (fun K hK=>?_);go_simp;have z1:SlI w18 (.slice pi IU ci) y.code:=(C18.rd 4 rfl);have z2:SlI w18 (.slice pu IU cu) y.code:=(C18.rd 1 rfl);have z3:SlStr w18 (.slice pn NV cn) y.names:=(C18.rd 5 rfl);have z4:SlStr w18 (.slice pv NV cv) y.names:=(C18.rd 2 rfl);refine(zFG _ _ _ _ _ _ _ _ _ _ z1 z2 z3 z4).mono ?_;clear z1 z2 z3 z4;rintro e w19 ⟨rfl,hb9⟩;have C19:=zh (Mz.below C18 hb9);clear hb9 C18;go_wp2;refine hK _ _ ?_ (fun hH=>?_)
     ·exact⟨(C19.rd 7 rfl),(C19.rd 6 rfl),(C19.rd 3 rfl),(C19.rd 0 rfl)⟩
     clear hK K
     try simp only [Act.put,q0,q1,q2]
     refine rU 11 (some 80) ?_;refine wpAnyH_done (by kernel_rfl) ?_ _;clear hH;have hml:=HML.out;unfold maxLen at hml;go_wp2;go_roundg (MX -(k+1))
     case measure=>omega
     case rel=>exact ⟨k+1,by go_num,by omega,rfl,zh (C19.ot.ot.ot.ot.ot.ot)⟩
    ·obtain rfl:MX=k:=by omega
     have hlt:=HLT.out;have qX:=(CI.rd 1 rfl);go_wp2_with fail;clear qX;go_roundg (LN -(j+1))
     case measure=>omega
     case rel=>exact ⟨j+1,by go_num,by omega,rfl,zh (CI.ot.ot.ot.ot.ot.ot.ot.ot)⟩
  ·obtain rfl:LN=j:=by omega
   have qA:=(CR.rd 0 rfl);go_wp2_with fail;clear qA;go_ret;exact⟨rfl,CR.gr.fresh⟩
theorem Mq.old {w W:World} {done:List CcT} {ms:List MmT} {vo vm:Value} {bs:List Bk} {os:List (World->Prop)} (h:Mq 0 w done ms vo vm bs os W):Inc w (hide (upL 0 ((ownL vo++ownL vm)++bs.map Prod.fst)) W):=zLU h.gr.fresh (fun q hq=>by
 rcases kU.1 hq with hq|hq
 ·exact(h.ol q hq).2
 ·exact(h.lts hq).1)
theorem Mq.lt {w W:World} {done:List CcT} {ms:List MmT} {vo vm:Value} {bs:List Bk} {os:List (World->Prop)} (h:Mq 0 w done ms vo vm bs os W):∀q∈(ownL vo++ownL vm)++bs.map Prod.fst,q<W.heap.size:=fun q hq=>by
 rcases kU.1 hq with hq|hq
 ·exact(h.ol q hq).1
 ·exact(h.lts hq).2.1
theorem zM {cs:List Tr.C} {v:Value} {w:World} (hp:SlC w v cs) (hsm:Ck.Small cs) (hsz:cs.length<=1000/\∀c∈cs,Co.SmC 1000 c):
 Calls prog 13 #[.agg #[v]] w (PPv 0 cs w):=by
 have hp0:=hp;obtain⟨pp,cp,rfl,_⟩:=hp.form;have hlc:=hsz.1;obtain⟨CN,hCN⟩:∃q,cs.length=q:=⟨_,rfl⟩;rw [hCN] at hp0 hlc |-;have HP:=zh hp0;have HN:=zh hCN;have HSM:=zh hsm;have HSZ:=zh hsz.2;have C0:=zh (Mq.start (V:=0) w (kO _));clear hp hp0 hCN hsm hsz;obtain⟨P,w1,HX1,HW1,hx1,C1⟩:=C0.boxE #[.slice pp CN cp] 24;obtain⟨R,w2,HX2,HW2,hx2,C2⟩:=C1.boxE #[.slice none 0 0] 29;have HY2:Hid (R=P+1):=zh (by rw [HX2.out,HW1.out,HX1.out];simp);go_in;go_upto_region 1 with fail;rw [<-HX1.out,<-HW1.out,<-HY2.out,<-HW2.out];clear HX1 HW1 C0 HY2 HX2 HW2 C1;have HRL:=zh (C2.lt 0 rfl).2;have q1:=zS (C2.b 1 rfl);go_wp2_with fail;clear q1;refine(zPY _ cs _ (HP.keep C2.gr.fresh) HSM).mono ?_;rintro e w3 ⟨v9,rfl,hown,hb⟩;have C4:=zh (C2.below hb);clear C2;clear hb;obtain⟨pk,ck,hvk⟩:=own_form hown;subst hvk;cases hck:Ck.check cs with
 |nil=>
  have HCK:=zh hck;have HVP:=zh (zE3 hck);clear hck hown;rw [kQ];obtain⟨OUT,w5,HX,HW,hx5,C5⟩:=C4.boxE #[.slice none 0 0] 29;go_upto_region 5 with fail;rw [<-HX.out,<-HW.out];clear HX HW C4;have C6:Hid (Mq 0 w [] [] (.slice none 0 0) (.slice none 0 0) [(OUT,#[(.slice none 0 0)],29),(R,#[.slice none 0 0],29),(P,#[.slice pp CN cp],24)] [AC [],RC (.slice pp CN cp) cs] w5):=zh ((C5.get (r:=RC (.slice pp CN cp) cs) rc_mn (SlC.inc HP (Mq.old C5))).few (fun r hr=>by simp only [kV,List.not_mem_nil,or_false] at hr |-;exact hr.symm));clear C5;have q2:=zS (C6.b 2 rfl);go_wp2_with fail;clear q2
  go_loopg [6] CN (fun gg s6 wr=>∃(j:Nat) (dn:List CcT) (vo:Value),s6= .int .i64 j/\j<=CN/\gg=CN -j/\Hid (Co.ccsOf cs (cs.take j)=some (dn.map Prod.fst))/\Hid (Mq 0 w dn [] vo (.slice none 0 0) [(OUT,#[vo],29),(R,#[.slice none 0 0],29),(P,#[.slice pp CN cp],24)] [AC dn,RC (.slice pp CN cp) cs] wr))
  case atStart=>exact ⟨0,[],.slice none 0 0,rfl,kO _,rfl,zh (by rw [List.take_zero];rfl),C6⟩
  case round=>
   clear C6;obtain⟨j,dn,vo,rfl,hj,rfl,HDN,CR⟩:=hrel;by_cases hlt:j<CN
   ·obtain⟨w_,hw_⟩:∃q,q=wr:=⟨_,rfl⟩;rw [<-hw_] at CR |-;clear hw_;obtain⟨c,hc⟩:∃c,cs[j]? =some c:=⟨_,kB (by rw [HN.out];exact hlt)⟩;have HC:=zh hc;have HSC:=zh (HSZ c (kM hc));have HVC:Hid (c.methods.all Tr.validM=true):=zh (by
     have h9:=HVP.out;unfold Tr.validP at h9;have h8:=List.all_eq_true.1 h9 c (kM hc);unfold Tr.validC at h8;simp only [kW] at h8;exact h8.2)
    obtain⟨b1,o1,vf,vm,hpe,_,⟨u0,u1,u2,u3⟩,hnm,hsf,hsm⟩:=HP.get hc;subst hpe;have HNMC:=zh hnm;have HSF:=zh hsf;have HSMM:=zh hsm;obtain⟨pf,cf,hvf,_,_⟩:=hsf;subst hvf;obtain⟨pm,cm,hvm,_,_⟩:=hsm;subst hvm;obtain⟨FN,hFN⟩:∃q,c.fields.length=q:=⟨_,rfl⟩;obtain⟨MN,hMN⟩:∃q,c.methods.length=q:=⟨_,rfl⟩;rw [hFN] at u2 HSF;rw [hMN] at u3 HSMM;have HU:=zh (⟨u0,u1,u2,u3⟩:w.cell? ⟨b1,o1+j*4,none⟩=some (.string c.name)/\w.cell? ⟨b1,o1+j*4+1,none⟩=some (.bool c.actor)/\w.cell? ⟨b1,o1+j*4+2,none⟩=some (.slice pf FN cf)/\w.cell? ⟨b1,o1+j*4+3,none⟩=some (.slice pm MN cm));have HMN:=zh hMN;have HFN:=zh hFN;have hmn:MN<=1000:=by rw [<-hMN];exact HSC.ms
    clear hc hnm hFN hMN u0 u1 u2 u3;have b0j:(0:Int)<=(j:Int):=(by omega);have b3j:(j:Int)<(CN:Int):=(by omega);have q2:=zS (CR.b 2 rfl);go_upto_region 8 with fail;clear q2;obtain⟨we,HWE,CE⟩:=CR.drewE;refine wp_region_held_drew (S:=fun W=>W.cell? ⟨P,0,none⟩=some (.slice (some ⟨b1,o1,none⟩) CN cp)/\W.cell? ⟨b1,o1+j*4,none⟩=some (.string c.name)/\W.cell? ⟨b1,o1+j*4+1,none⟩=some (.bool c.actor)/\W.cell? ⟨b1,o1+j*4+2,none⟩=some (.slice pf FN cf)) (by kernel_rfl) (by rw [<-HWE.out];exact⟨zB (CE.b 2 rfl) (j:=0) rfl,zA CE.gr.fresh HU.1,zA CE.gr.fresh HU.2.1,zA CE.gr.fresh HU.2.2.1⟩) (fun hH=>?_);rw [<-HWE.out] at hH |-;clear HWE CR;refine rU 0 (some 28) ?_;refine rU 1 (some 29) ?_;refine rU 2 (some 30) ?_;refine rU 3 (some 31) ?_;refine rU 4 (some 32) ?_;refine rU 5 (some 33) ?_;refine rU 6 (some 34) ?_;refine rU 7 (some 35) ?_;refine rU 8 (some 36) ?_;refine rU 9 (some 37) ?_;refine rU 10 (some 38) ?_;refine rU 11 (some 39) ?_;refine rU 12 (some 40) ?_;refine rU 13 (some 41) ?_;refine rU 14 (some 42) ?_;refine rU 15 (some 43) ?_;refine rU 16 (some 44) ?_;refine rU 17 (some 45) ?_;refine rU 18 (some 46) ?_;clear hH;refine rR1 19 (some 7) (fun K hK=>?_);obtain⟨XB,w7,HX,HW,hx7,C7⟩:=CE.boxE #[.string ⟨#[]⟩,.bool false,.slice none 0 0,.slice none 0 0] 52;go_simp;rw [<-HX.out,<-HW.out];clear HX HW CE;refine hK _ _ ?_ (fun hH=>?_)
    ·exact⟨zB (C7.b 3 rfl) (j:=0) rfl,zA C7.gr.fresh HU.1,zA C7.gr.fresh HU.2.1,zA C7.gr.fresh HU.2.2.1⟩
    clear hK K
    try simp only [Act.put,q0,q1,q2]
    clear hH;refine rR1 20 none (fun K hK=>?_);rw [kD (by rfl)];obtain⟨w8,HW,C8⟩:=C7.setRowE 0 rfl #[.string c.name,.bool c.actor,.slice pf FN cf,.slice none 0 0];dsimp only [List.set] at C8;refine wp_store_row _ _ _ rfl XB #[.string c.name,.bool c.actor,.slice pf FN cf,.slice none 0 0] rfl rfl 52 #[.string ⟨#[]⟩,.bool false,.slice none 0 0,.slice none 0 0] (C7.b 0 rfl) (by kernel_rfl) rfl (by simp [Value.oneCell']) ?_;rw [<-HW.out];clear HW C7;refine hK _ _ ?_ (fun hH=>?_)
    ·exact⟨zB (C8.b 3 rfl) (j:=0) rfl,zA C8.gr.fresh HU.1,zA C8.gr.fresh HU.2.1,zA C8.gr.fresh HU.2.2.1⟩
    clear hK K;simp only [Act.put];refine wpAnyH_done (by kernel_rfl) ?_ _;clear hH;have C9:Hid (Mq 0 w dn [] vo (.slice none 0 0) [(XB,#[.string c.name,.bool c.actor,.slice pf FN cf,.slice none 0 0],52),(OUT,#[vo],29),(R,#[.slice none 0 0],29),(P,#[.slice (some ⟨b1,o1,none⟩) CN cp],24)] [AM [],RN (.slice pf FN cf) c.fields,AC dn,RC (.slice (some ⟨b1,o1,none⟩) CN cp) cs] w8):=zh ((C8.get (r:=RN (.slice pf FN cf) c.fields) rn_mn (SlStr.inc HSF (Mq.old C8))).get (r:=AM []) am_mn (fun x hx=>by cases hx));clear C8;go_wp2
    go_loopg [8] MN (fun gg s8 wr=>∃(k:Nat) (ms:List MmT) (vm:Value),s8= .int .i64 k/\k<=MN/\gg=MN -k/\Hid (Co.cmsOf cs c (c.methods.take k)=some (ms.map Prod.fst))/\Hid (Mq 0 w dn ms vo (vm) [(XB,#[.string c.name,.bool c.actor,.slice pf FN cf,vm],52),(OUT,#[vo],29),(R,#[.slice none 0 0],29),(P,#[.slice (some ⟨b1,o1,none⟩) CN cp],24)] [AM ms,RN (.slice pf FN cf) c.fields,AC dn,RC (.slice (some ⟨b1,o1,none⟩) CN cp) cs] wr))
    case atStart=>exact ⟨0,[],.slice none 0 0,rfl,kO _,rfl,zh (by rw [List.take_zero];rfl),C9⟩
    case round=>
     clear C9;obtain⟨k,ms,vm,rfl,hk,rfl,HMS,CI⟩:=hrel;obtain⟨wk,hw_⟩:∃q,q=wr:=⟨_,rfl⟩;rw [<-hw_] at CI |-;clear hw_;by_cases hlk:k<MN
     ·obtain⟨m,hm⟩:∃m,c.methods[k]? =some m:=⟨_,kB (by rw [HMN.out];exact hlk)⟩;have HM:=zh hm;have HWM:Hid (m.params.length+Co.wSs m.body+10<=900000):=zh (by have h9:=HSC.all m (kM hm);have:=h9.w;have:=h9.ps;omega);have HVM:Hid (Tr.zV m.body=true):=zh (by
       have h8:=List.all_eq_true.1 HVC m (kM hm);unfold Tr.validM at h8;simp only [kW] at h8;exact h8.2)
      have HNMM:=zh (show m.name.size<=maxLen from by obtain⟨_,_,_,_,_,_,_,h9,_⟩:=HSMM.get hm;exact h9);have HMSL:Hid (ms.length<=1000):=zh (by have h9:=(Co.zII HMS).1;rw [List.length_map,List.length_take] at h9;omega);clear hm;have b0k:(0:Int)<=(k:Int):=(by omega);have b3k:(k:Int)<(MN:Int):=(by omega);have x3:=zA CI.gr.fresh HU.2.2.2;have q3:=zS (CI.b 3 rfl);go_wp2_with fail;clear q3;clear x3;have hk9:=zM5 (cs:=cs) (cl:=c) (m:=m) (l:=((ownL vo++ownL vm)++ [XB,OUT,R,P])) HN (w:=wk) (Mq.lt CI) (CI.o 3 rfl) (i:=j) (k:=k) HC HM HVM HWM;refine hk9.mono ?_;clear hk9;rintro e w10 ⟨hb9,hmp⟩;have C10:=zh (CI.below hb9);clear hb9 CI;cases hg9:Co.gM cs c m with
      |none=>
       rw [hg9] at hmp;subst hmp;have HLG:Hid (Co.ccsOf cs cs=none):=zh (Co.zJT (kM HC) (Co.zJS (kM HM) hg9));clear hg9;obtain⟨CM,w11,HX,HW,hx11,C11⟩:=C10.boxE #[.string ⟨#[]⟩,.int .i64 0,.int .i64 0,.slice none 0 0,.slice none 0 0] 59;go_upto_region 13 with fail;rw [<-HX.out,<-HW.out];clear HX HW C10;have q3:=zS (C11.b 3 rfl);go_wp2;refine Mz.retC C11 3 rfl results13 rfl rfl rfl (fun W9 h9=>zTI HCK HLG h9.gr.fresh)
      |some g=>
       rw [hg9] at hmp;obtain⟨cv9,nv9,he9,hc9,hn9⟩:=hmp;subst he9;have hn8:=hn9;obtain⟨pI,cI,hI,_⟩:=hc9.form;obtain⟨pN,cN,hNN,_,_⟩:=hn8;subst hI;subst hNN;obtain⟨IN,hIN⟩:∃q,g.code.length=q:=⟨_,rfl⟩;obtain⟨NN,hNN2⟩:∃q,g.names.length=q:=⟨_,rfl⟩;obtain⟨LN,hLN⟩:∃q,g.locals=q:=⟨_,rfl⟩;obtain⟨PN,hPN⟩:∃q,m.params.length=q:=⟨_,rfl⟩;rw [hIN] at hc9 |-;rw [hNN2] at hn9 |-;rw [hLN,hPN];have C12:=zh (C10.get (r:=R1 (Co.cmOf m g,Value.slice pI IN cI,Value.slice pN NN cN)) r1_mn ⟨HNMM,hc9,hn9⟩);have HMK:Hid (Co.cmsOf cs c (c.methods.take (k+1))=some ((ms++ [(Co.cmOf m g,Value.slice pI IN cI,Value.slice pN NN cN)]).map Prod.fst)):=zh (by rw [zE8 HM.out,List.map_append];exact Co.zL6 HMS hg9);have HLN:=zh hLN;have HPN:=zh hPN;clear C10 hg9 hc9 hn9 hIN hNN2 hLN hPN;obtain⟨CM,w13,HX,HW,hx13,C13⟩:=C12.boxE #[.string m.name,.int .i64 PN,.int .i64 LN,.slice pI IN cI,.slice pN NN cN] 59;go_upto_region 13 with fail;rw [<-HX.out,<-HW.out];clear HX HW C12;go_upto_region 15 with fail;obtain⟨i0,hi0,hz0,hz1,hz2⟩:=info_parts cmInfo;obtain⟨G,wg,HG,HWG,hxg,CG⟩:=C13.boxE #[.string m.name,.int .i64 PN,.int .i64 LN,.slice pI IN cI,.slice pN NN cN] 59;have q1:=cells4 (C13.b 1 rfl);have q0:=zX (C13.b 0 rfl);go_wp2_with (at_builtin;rw [<-HG.out,<-HWG.out];refine zDJ zHW rfl _ _ 50 rfl i0 (.agg #[.string ⟨#[]⟩,.int .i64 0,.int .i64 0,.slice none 0 0,.slice none 0 0]) 80 underlying50 hi0 hz0 hz1 hz2 rfl (by decide) rfl CG.q.mts G #[.string m.name,.int .i64 PN,.int .i64 LN,.slice pI IN cI,.slice pN NN cN] (Co.cmOf m g,Value.slice pI IN cI,Value.slice pN NN cN) rfl (CG.b 0 rfl) (by rw [<-HPN.out,<-HLN.out];rfl) (zM2 (CG.o 0 rfl)) (by have h9:=HMSL.out;unfold maxLen;omega) (by have h9:=HMSL.out;omega) (kG CG.hB CG.le) ?_;intro v9 wa hr9 hg9 hf9;have CA:=zh (Mp.pushM CG hr9 hg9 hf9).tl;obtain⟨pc,cc,hv9⟩:=own_form hr9;subst hv9;have hxb:=CA.b 1 (X:=XB) rfl;have gla:=lt_of_block hxb;have ga3:=zB hxb (j:=3) (u:=vm) rfl;have gaf3:=zP hxb 3;clear hr9 hg9 hf9 hxb CG q1 q0);have hl9:(ms++ [(Co.cmOf m g,Value.slice pI IN cI,Value.slice pN NN cN)]).length=ms.length+1:=(by simp);rw [hl9] at CA;have CT:=zh CA.tl;obtain⟨wz,HWZ⟩:∃q,Hid (q=wa.setCell ⟨XB,3,none⟩ (.slice pc (ms.length+1) cc)):=⟨_,zh rfl⟩;have CZ:Hid (Mq 0 w dn (ms++ [(Co.cmOf m g,Value.slice pI IN cI,Value.slice pN NN cN)]) vo (.slice pc (ms.length+1) cc) [(XB,#[.string c.name,.bool c.actor,.slice pf FN cf,.slice pc (ms.length+1) cc],52),(OUT,#[vo],29),(R,#[.slice none 0 0],29),(P,#[.slice (some ⟨b1,o1,none⟩) CN cp],24)] [AM (ms++ [(Co.cmOf m g,Value.slice pI IN cI,Value.slice pN NN cN)]),RN (.slice pf FN cf) c.fields,AC dn,RC (.slice (some ⟨b1,o1,none⟩) CN cp) cs] wz):=zh ((CT.set 0 rfl (by rw [HWZ.out];exact zW wa XB 3 _) (by rw [HWZ.out];exact heap_set (j:=3) _ (CT.b 0 rfl))).nrm rfl);rw [<-HWZ.out];clear HWZ CT CA gla ga3 gaf3;go_roundg (MN -(k+1))
       case measure=>omega
       case rel=>exact ⟨k+1,_,_,by go_num,by omega,rfl,HMK,CZ⟩
     ·obtain rfl:MN=k:=by omega
      have HMS2:Hid (Co.cmsOf cs c c.methods=some (ms.map Prod.fst)):=zh (by have h9:=HMS.out;rw [kR (by rw [HMN.out];exact kL _)] at h9;exact h9);obtain⟨pv9,cv9,hv9⟩:=own_form CI.q.mts;obtain⟨ML,hML⟩:∃q,ms.length=q:=⟨_,rfl⟩;rw [hML] at hv9;subst hv9;have CS:=zh (Mp.seal CI);have HDL:Hid (dn.length<=1000):=zh (by have h9:=(Co.zIL HDN).1;rw [List.length_map,List.length_take] at h9;omega);have HDK:Hid (Co.ccsOf cs (cs.take (j+1))=some ((dn++ [(Co.ccOf c (ms.map Prod.fst),Value.slice pf FN cf,Value.slice pv9 ML cv9)]).map Prod.fst)):=zh (by rw [zE8 HC.out,List.map_append];exact Co.zL8 HDN HMS2);have x3:=zA CI.gr.fresh HU.2.2.2;clear CI HMS hML hk hlk;have q3:=zS (CS.b 3 rfl);go_upto_region 16 with fail;clear q3;clear x3;obtain⟨i0,hi0,hz0,hz1,hz2⟩:=info_parts ccInfo;obtain⟨G,wg,HG,HWG,hxg,CG⟩:=CS.boxE #[.string c.name,.bool c.actor,.slice pf FN cf,.slice pv9 ML cv9] 52;have q0:=cells4 (CS.b 0 rfl);have q1:=zS (CS.b 1 rfl);go_wp2_with (at_builtin;rw [<-HG.out,<-HWG.out];refine zDJ zIM rfl _ _ 27 rfl i0 (.agg #[.string ⟨#[]⟩,.bool false,.slice none 0 0,.slice none 0 0]) 72 underlying27 hi0 hz0 hz1 hz2 rfl (by decide) rfl CG.q.cls G #[.string c.name,.bool c.actor,.slice pf FN cf,.slice pv9 ML cv9] (Co.ccOf c (ms.map Prod.fst),Value.slice pf FN cf,Value.slice pv9 ML cv9) rfl (CG.b 0 rfl) rfl (zNJ ⟨HNMC.out,CG.o 1 rfl,CG.o 0 rfl⟩) (by have h9:=HDL.out;unfold maxLen;omega) (by have h9:=HDL.out;omega) (kG CG.hB CG.le) ?_;intro v9 wa hr9 hg9 hf9;have CA:=zh (Mp.pushC CG.out HNMC.out hr9 hg9 hf9).tl;obtain⟨pc,cc,hv9⟩:=own_form hr9;subst hv9;have hxb:=CA.b 1 (X:=OUT) rfl;have gla:=lt_of_block hxb;have ga3:=zB hxb (j:=0) (u:=vo) rfl;have gaf3:=zP hxb 0;clear hr9 hg9 hf9 hxb CG q0 q1);have hl9:(dn++ [(Co.ccOf c (ms.map Prod.fst),Value.slice pf FN cf,Value.slice pv9 ML cv9)]).length=dn.length+1:=(by simp);rw [hl9] at CA;have CT:=zh CA.tl;obtain⟨wz,HWZ⟩:∃q,Hid (q=wa.setCell ⟨OUT,0,none⟩ (.slice pc (dn.length+1) cc)):=⟨_,zh rfl⟩;have CZ:Hid (Mq 0 w (dn++ [(Co.ccOf c (ms.map Prod.fst),Value.slice pf FN cf,Value.slice pv9 ML cv9)]) [] (.slice pc (dn.length+1) cc) (.slice none 0 0) [(OUT,#[(.slice pc (dn.length+1) cc)],29),(R,#[.slice none 0 0],29),(P,#[.slice (some ⟨b1,o1,none⟩) CN cp],24)] [AC (dn++ [(Co.ccOf c (ms.map Prod.fst),Value.slice pf FN cf,Value.slice pv9 ML cv9)]),RC (.slice (some ⟨b1,o1,none⟩) CN cp) cs] wz):=zh ((CT.set 0 rfl (by rw [HWZ.out];exact zW wa OUT 0 _) (by rw [HWZ.out];exact heap_set (j:=0) _ (CT.b 0 rfl))).nrm rfl);rw [<-HWZ.out];clear HWZ CT CA gla ga3 gaf3;go_roundg (CN -(j+1))
      case measure=>omega
      case rel=>exact ⟨j+1,_,_,by go_num,by omega,rfl,HDK,CZ⟩
   ·obtain rfl:CN=j:=by omega
    have HDN2:Hid (Co.ccsOf cs cs=some (dn.map Prod.fst)):=zh (by have h9:=HDN.out;rw [kR (by rw [HN.out];exact kL _)] at h9;exact h9);obtain⟨po,co,hv9⟩:=own_form CR.q.cls;obtain⟨ON,hON⟩:∃q,dn.length=q:=⟨_,rfl⟩;rw [hON] at hv9;subst hv9;clear HDN hON hlt hj;have q0:=zS (CR.b 0 rfl);have q1:=zS (CR.b 1 rfl);have q2:=zS (CR.b 2 rfl);go_wp2;refine Mz.retC CR 1 rfl results13 rfl rfl rfl (fun W9 h9=>?_);obtain⟨hb9,hs9⟩:=Mp.fin h9;exact pp_ok HCK HDN2 hb9 hs9
 |cons n r=>
  rw [hck] at hown;have HCK:=zh hck;obtain⟨gk,hgk,hRk,hk0⟩:∃g,pk=some ⟨g,0,none⟩/\R<g/\Hid (w3.cell? ⟨g,0,none⟩=some (.int .i64 (n:Nat))):=by
   rcases hown.2 with ⟨e,_⟩|⟨g,cap,cur,e,hbg,hg,hnc,_,_,ht⟩
   ·injection e with _ e _
    cases e
   ·injection e with e1 e2 e3
    refine⟨g,e1,kP HRL hbg,zh (zB hg ?_)⟩;have h9:(List.take ((n::r).length*1) cur.toList)[0]? =some (.int .i64 (n:Nat)):=by rw [ht];rfl
    rw [List.getElem?_take_of_lt (by simp),Array.getElem?_toList] at h9;exact h9
  subst hgk;obtain⟨KN,hKN⟩:∃q,(n::r).length=q:=⟨_,rfl⟩;have hkp:(0:Int)<(KN:Int):=by rw [<-hKN,kI];omega
  rw [hKN];have HKC:=hk0;clear hck hown hKN hk0;go_upto_region 3 with fail;obtain⟨wd,HWD,CD⟩:=C4.drewE;have HC0:Hid (wd.cell? ⟨gk,0,none⟩=some (.int .i64 (n:Nat))):=zh (by rw [HWD.out];exact HKC);have HNE:Hid (gk≠R):=zh (by omega);refine wp_region_held_drew (S:=fun W=>W.cell? ⟨gk,0,none⟩=some (.int .i64 (n:Nat))) (by kernel_rfl) (by rw [<-HWD.out];exact HC0) (fun hH=>?_);rw [<-HWD.out] at hH |-;clear HWD C4;refine rU 0 (some 16) ?_;refine rU 1 (some 17) ?_;refine rU 2 (some 18) ?_;refine rU 3 (some 19) ?_;clear hH;have q0:=zS (CD.b 0 rfl);refine rR1 4 none (fun K hK=>?_);go_simp;clear q0;refine hK _ _ ?_ (fun hH=>?_)
  ·exact zGB (zW wd R 0 _) HC0 (ne_sm HNE)
  clear hK K
  try simp only [Act.put,q0,q1,q2]
  refine rU 5 (some 3) ?_;refine wpAnyH_done (by kernel_rfl) ?_ _;go_wp2;refine Mz.retC CD 0 rfl results13 rfl rfl rfl (fun W9 h9=>pp_bad HCK h9.gr.fresh)
theorem zVM (cs:List Tr.C) (v:Value) (w:World) (hE:CoEnv w) (hp:SlC w v cs):
 Calls prog 3 #[.agg #[v]] w fun r w'=>r= .returned (.bool true)/\Below w.heap.size w w':=by
 have hp0:=hp;obtain⟨pp,cp,rfl,hcl,_⟩:=hp;obtain⟨CN,hCN⟩:∃q,cs.length=q:=⟨_,rfl⟩;rw [hCN] at hp0 hcl |-;have HE:=zh hE;have C0:=zh (Mo.add (Mo.start w) (r:=RC (.slice pp CN cp) cs) rc_mn hp0);clear hp0 hE hCN hcl;obtain⟨P,w1,HX,HW,hx1,C1⟩:=C0.boxE #[.slice pp CN cp] 24;go_in;go_upto_region 1 with fail;rw [<-HX.out,<-HW.out];clear HX HW C0;have C2:=zh (Mz.foldA1 C1);clear C1;go_wp2_with fail;have hk:=zNL w1 (HE.keep C2.gr.fresh);refine hk.mono ?_;clear hk;rintro e w3 ⟨rfl,hb9⟩;have C3:=zh (Mz.below C2 hb9);clear hb9 C2;cases hf:Tr.fewP cs 150
 ·have qP:=(C3.rd 0 rfl);go_wp2_with fail;clear qP;have hk:=zR4 (.slice pp CN cp) cs 150 w3 (C3.rd 1 rfl) (by decide) (by decide);rw [hf] at hk;refine hk.mono ?_;clear hk;rintro e w4 ⟨rfl,hb9⟩;have C4:=zh (Mz.below C3 hb9);clear hb9 C3;go_wp2;go_ret;exact⟨rfl,C4.gr.fresh⟩
 ·have qP:=(C3.rd 0 rfl);go_wp2_with fail;clear qP;have hk:=zR4 (.slice pp CN cp) cs 150 w3 (C3.rd 1 rfl) (by decide) (by decide);rw [hf] at hk;refine hk.mono ?_;clear hk;rintro e w5 ⟨rfl,hb9⟩;have C5:=zh (Mz.below C3 hb9);clear hb9 C3;have HSM:=zh (Ck.zNN hf (by decide));have HFIT:=zh (Tr.zR1 hf (by decide));have HSZ:=zh (Co.zUN hf (by decide));clear hf;have qP:=(C5.rd 0 rfl);go_wp2_with fail;clear qP;refine(zFL (C5.rd 1 rfl) (HE.keep C5.gr.fresh) HSM HFIT HSZ).mono ?_;rintro e w6 hq;obtain⟨hb9,E,l,po,co,rfl,hs9,hpr⟩:=zTH hq;have HPR:=zh hpr;obtain⟨LL,hLL⟩:∃q,l.length=q:=⟨_,rfl⟩;rw [hLL] at hs9 |-;have HLL:=zh hLL;clear hLL;have C6:=zh (Mo.add (Mz.below C5 hb9) (r:=RCc (.slice po LL co) l) rcc_mn hs9);clear hb9 C5 hq hpr hs9;obtain⟨C,w7,HX,HW,hx7,C7⟩:=C6.boxE #[.slice po LL co] 29;go_upto_region 6 with fail;rw [<-HX.out,<-HW.out];clear HX HW C6;have C8:=zh (Mz.foldA1 C7);clear C7;have qP:=(C8.rd 2 rfl);go_wp2_with fail;clear qP;refine(zM (C8.rd 3 rfl) HSM HSZ).mono ?_;rintro e w9 hq;obtain⟨hb9,E2,l2,pr,cr,rfl,hs9,hpr⟩:=zTH hq;have heq:=pr_fun HPR hpr;injection heq with he1 he2
  subst he1 he2;rw [HLL.out] at hs9 |-;have C9:=zh (Mo.add (Mz.below C8 hb9) (r:=RCc (.slice pr LL cr) l) rcc_mn hs9);clear hb9 C8 hq hpr hs9;obtain⟨D,w10,HX,HW,hx10,C10⟩:=C9.boxE #[.slice pr LL cr] 29;go_upto_region 7 with fail;rw [<-HX.out,<-HW.out];clear HX HW C9;have C11:=zh (Mz.foldA1 C10);clear C10;have hnn:(E == E)=true:=(by simp);have qC:=(C11.rd 2 rfl);have qD:=(C11.rd 0 rfl);go_wp2_with fail;clear qC qD;have hk:=zVN l (.slice po LL co) (.slice pr LL cr) w10 (C11.rd 3 rfl) (C11.rd 1 rfl);refine hk.mono ?_;clear hk;rintro e w12 ⟨rfl,hb9⟩;have C12:=zh (Mz.below C11 hb9);clear hb9 C11;go_wp2;go_ret;exact⟨rfl,C12.gr.fresh⟩
end Cw
end Go.Proofs.YtcnmfcgmnkncaaaGreatDoor
