/-
  branch, walked.
-/
import Derived.Test.YtcnmfcgmnkncaaaGreatDoorX14
set_option maxRecDepth 100000
set_option maxHeartbeats 40000000
open Go.Proofs.Tryz
namespace Go.Proofs.YtcnmfcgmnkncaaaGreatDoor
namespace Cw
open Go.RowKit Go.Maps Pw
theorem zQ3 (g:Co.G) (s:BA):(Co.name g s).1.code=g.code:=by
 unfold Co.name
 split<;>rfl
theorem zH9 (cs:List Tr.C) (fs:List BA):∀(l:List Tr.E) (g:Co.G),g.code.length<=(Co.gEs cs fs g l).code.length
 | [],g=>by rw [Co.gEs];exact kL _
 |e::r,g=>by rw [Co.gEs];exact kG (Co.zKI cs fs g e).len (zH9 cs fs r _)
mutual
theorem gS_len (cs:List Tr.C) (fs:List BA):∀(g:Co.G) (s:Tr.S),g.code.length<=(Co.gS cs fs g s).code.length
 |g,.mk k nm x b l=>by
  have t1:=zH9 cs fs ((Co.zG x).take 1) g;have d1:=zH9 cs fs ((Co.zG x).drop 1) g;have a1:=zH9 cs fs (Co.zG x) g;have hem:∀ {g0 g':Co.G} (o a b p q:Int),g0.code.length<=g'.code.length->g0.code.length<=(Co.emit g' o a b p q).code.length:=fun o a b p q h=>by rw [Co.zBJ];omega
  have hpa:∀ {g0 g':Co.G} (i:Nat),g0.code.length<=g'.code.length->g0.code.length<=(Co.patch g' i).code.length:=fun i h=>by rw [Co.zC8];exact h
  have hsh:∀ {g0 g1 g':Co.G},g0.code.length<=g'.code.length->g0.code.length<=(Co.shut g1 g').code.length:=fun h=>h
  have hnm:∀ {g0 g':Co.G} (s:BA),g0.code.length<=g'.code.length->g0.code.length<=(Co.name g' s).1.code.length:=fun s h=>by rw [zQ3];exact h
  rw [Co.gS];dsimp only
  split
  ·exact hem (g':=Co.gEs cs fs g ((Co.zG x).take 1)) 4 g.locals 0 1 0 t1
  ·split
   ·exact hem _ _ _ _ _ t1
   ·split
    ·split
     ·exact hem _ _ _ _ _ d1
     ·exact hem _ _ _ _ _ (hnm _ a1)
    ·have h1:=hem 19 0 0 1 0 t1;have h2:=kG h1 (zKF cs fs _ b)
     split
     ·split
      ·exact hpa _ (hsh h2)
      ·refine hpa _ (hsh (kG ?_ (zKF cs fs _ l)));exact hpa _ (hem _ _ _ _ _ (hsh h2))
     ·split
      ·exact hpa _ (hem _ _ _ _ _ (hsh h2))
      ·split
       ·exact hem (g':= { (Co.name (Co.gEs cs fs g (Co.zG x)) nm).1 with large:=(Co.name (Co.gEs cs fs g (Co.zG x)) nm).1.large||decide (8<(Co.zG x).length -1) }) _ _ _ _ _ (hnm nm a1)
       ·split
        ·exact hem _ _ _ _ _ t1
        ·split
         ·exact hem _ _ _ _ _ a1
         ·split
          ·exact hem _ _ _ _ _ (hnm _ a1)
          ·exact hem _ _ _ _ _ (kL _)
theorem zKF (cs:List Tr.C) (fs:List BA):∀(g:Co.G) (l:List Tr.S),g.code.length<=(Co.gSs cs fs g l).code.length
 |g,[]=>by rw [Co.gSs];exact kL _
 |g,s::r=>by
  rw [Co.gSs];exact kG (gS_len cs fs g s) (zKF cs fs _ r)
end
theorem zIA (cs:List Tr.C) (fs:List BA) (g:Co.G) (l:List Tr.S):g.code.length<=(Co.gB cs fs g l).code.length:=zKF cs fs g l
theorem zPZ {B0 gb:Nat} {cs:List Tr.C} {cl:Tr.C} {pv fv mv:Value} {g:Co.G} {cv nv vv:Value} {w:World} {d:Nat} (hC:BC B0 gb cs cl pv fv mv d) (s:Tr.S) (hdb:Tr.S.deep.deeps s.body<=d) (hdl:Tr.S.deep.deeps s.els<=d) (hvb:Tr.zV s.body=true) (hvl:Tr.zV s.els=true) (h:GS B0 gb cs cl pv fv mv g cv nv vv w) (hB:B0<=w.heap.size) {n:Nat} (hbd:Co.Bd n g/\n+Co.wSs s.body+Co.wSs s.els+9<=900000) {x y z:Value} (hx:∃p N c,x= .slice p N c) (hy:SlS (hide (upL 0 (owl gb cv nv vv)) w) y s.body) (hz:SlS (hide (upL 0 (owl gb cv nv vv)) w) z s.els):
 Calls prog 136 #[.pointer (some ⟨gb,0,none⟩),stmtV s x y z] w (GQ B0 gb cs cl pv fv mv (let h:=Co.emit g 19 0 0 1 0;let g2:=Co.gB cs cl.fields h s.body;if s.els.isEmpty then Co.patch g2 g.code.length else Co.patch (Co.gB cs cl.fields (Co.patch (Co.emit g2 18 0 0 0 0) g.code.length) s.els) g2.code.length) cv nv vv w):=by
 obtain⟨X,hX⟩:∃q,(let h:=Co.emit g 19 0 0 1 0;let g2:=Co.gB cs cl.fields h s.body;if s.els.isEmpty then Co.patch g2 g.code.length else Co.patch (Co.gB cs cl.fields (Co.patch (Co.emit g2 18 0 0 0 0) g.code.length) s.els) g2.code.length)=q:=⟨_,rfl⟩;rw [hX];obtain⟨k,nm,x0,b,l⟩:=s;change (if l.isEmpty then Co.patch (Co.gB cs cl.fields (Co.emit g 19 0 0 1 0) b) g.code.length else Co.patch (Co.gB cs cl.fields (Co.patch (Co.emit (Co.gB cs cl.fields (Co.emit g 19 0 0 1 0) b) 18 0 0 0 0) g.code.length) l) (Co.gB cs cl.fields (Co.emit g 19 0 0 1 0) b).code.length)=X at hX;have hy':SlS (hide (upL 0 (owl gb cv nv vv)) w) y b:=hy;have hz':SlS (hide (upL 0 (owl gb cv nv vv)) w) z l:=hz;obtain⟨px,NX,cx,rfl⟩:=hx;obtain⟨py,cy,rfl,_⟩:=hy'.form;obtain⟨pz,cz,rfl,_⟩:=hz'.form;obtain⟨NB,hNB⟩:∃q,b.length=q:=⟨_,rfl⟩;obtain⟨NL,hNL⟩:∃q,l.length=q:=⟨_,rfl⟩;rw [hNB] at hy';rw [hNL] at hz';have HBD:Hid (Co.Bd n g/\n<=900000):=zh ⟨hbd.1,by have:=hbd.2;omega⟩;have hbd2:n+Co.wSs b+Co.wSs l+9<=900000:=hbd.2;have HT:=zh hbd2;have HBC:=zh hC;have hd1:Tr.S.deep.deeps b<=d:=hdb;have hd2:Tr.S.deep.deeps l<=d:=hdl;have hv1:Tr.zV b=true:=hvb;have hv2:Tr.zV l=true:=hvl;have HD1:=zh hd1;have HD2:=zh hd2;have HV1:=zh hv1;have HV2:=zh hv2;have HNL:=zh hNL;have C0:=zh (Mg.start (os:= [RS (.slice py NB cy) b,RS (.slice pz NL cz) l]) h hB (fun r hr=>by
  rcases kV.1 hr with rfl|hr
  ·exact⟨rs_mn,hy'⟩
  rw [kT.1 hr];exact⟨rs_mn,hz'⟩))
 have HX:=zh hX;unfold stmtV;simp only [Tr.S.kind,Tr.S.name];rw [hNB,hNL];clear hX h hB hbd hbd2 hy hz hy' hz' hC hdb hdl hvb hvl hd1 hd2 hv1 hv2 hNB hNL;obtain⟨S,w1,HX1,HW1,hx1,C1⟩:=C0.boxE #[.int .i64 k,.string nm,.slice px NX cx,.slice py NB cy,.slice pz NL cz] 71;go_in;go_upto_region 1 with fail;rw [<-HX1.out,<-HW1.out];clear HX1 HW1 C0;go_wp2_with fail;refine(zFS C1.q (kG C1.hB C1.le) HBD (19) (1) ⟨by omega,by omega⟩).mono ?_;rintro e w2 hp2;obtain⟨X1,A1,cv2,nv2,vv2,rfl,C2⟩:=Mg.jumped C1 hp2;clear hp2 C1;unfold labV;have HB3:Hid (Co.Bd (n+1+1) (Co.emit (g) (19) 0 0 (1) 0)/\n+1+1<=900000):=zh ⟨HBD.1.em (m:=1) ⟨by omega,by omega⟩ ⟨by omega,by omega⟩,by have h9:=HT.out;omega⟩;clear HBD;have q2:=zX (C2.b 2 rfl);go_wp2_with fail;clear q2;refine(HBC b _ _ _ _ w2 (.slice py NB cy) _ HD1 HV1 C2.q (kG C2.hB C2.le) ⟨HB3.1,by have:=HT.out;omega⟩ (Mg.sightS C2 0 rfl)).mono ?_;rintro e w4 hp4;obtain⟨rfl,cv4,nv4,vv4,C4⟩:=Mg.done C2 hp4;clear hp4 C2;have HB5:Hid (Co.Bd (n+1+1+Co.wSs b) (Co.gB cs cl.fields (Co.emit (g) (19) 0 0 (1) 0) b)/\n+1+1+Co.wSs b<=900000):=zh ⟨(Co.zDD cs cl.fields _ _ b HB3.1).shut (HB3.1.mono (by omega)),by have h9:=HT.out;omega⟩;clear HB3;have HK2:Hid ((Co.emit g 19 0 0 1 0).code.length<=(Co.gB cs cl.fields (Co.emit g 19 0 0 1 0) b).code.length):=zh (zIA cs cl.fields _ b);by_cases h0:NL=0
 ·obtain rfl:l= []:=List.length_eq_zero_iff.1 (by rw [HNL.out];exact h0);subst h0;have q2:=zX (C4.b 2 rfl);go_wp2_with fail;clear q2;refine(zC9 C4.q HB5 (k:=g.code.length) (by have h9:=HK2.out;rw [Co.zBJ g] at h9;omega) (C4.b 1 rfl) (C4.b 0 rfl) (C4.lts (q:=X1) (by simp)).2.2 (C4.lts (q:=A1) (by simp)).2.2).mono ?_;rintro e w6 hp6;obtain⟨rfl,cv6,nv6,vv6,C6⟩:=Mg.done C4 hp6;clear hp6 C4;have HB7:Hid (Co.Bd (n+1+1+Co.wSs b) (Co.patch (Co.gB cs cl.fields (Co.emit (g) (19) 0 0 (1) 0) b) (g.code.length))/\n+1+1+Co.wSs b<=900000):=zh ⟨HB5.1.patch _,by have h9:=HT.out;omega⟩;clear HB5;go_wp2_with fail;have hx9:=HX.out;rw [kD (by rfl)] at hx9;have HX:=zh hx9;clear hx9;go_end0;have h9:=Mg.fin C6.out;rw [HX.out] at h9;exact h9
 ·have hlb:l.isEmpty=false:=by
   cases l with
   |nil=>exact absurd HNL.symm h0
   |cons _ _=>rfl
  rw [hlb,kC (by decide)] at HX;have hn0:((NL:Int) == 0)=false:=kA.2 (by omega);clear hlb;have q2:=zX (C4.b 2 rfl);go_wp2_with fail;clear q2;refine(zFS C4.q (kG C4.hB C4.le) HB5 (18) (0) ⟨by omega,by omega⟩).mono ?_;rintro e w8 hp8;obtain⟨X2,A2,cv8,nv8,vv8,rfl,C8⟩:=Mg.jumped C4 hp8;clear hp8 C4;unfold labV;have HB9:Hid (Co.Bd (n+1+1+Co.wSs b+0+1) (Co.emit (Co.gB cs cl.fields (Co.emit (g) (19) 0 0 (1) 0) b) (18) 0 0 (0) 0)/\n+1+1+Co.wSs b+0+1<=900000):=zh ⟨HB5.1.em (m:=0) ⟨by omega,by omega⟩ ⟨by omega,by omega⟩,by have h9:=HT.out;omega⟩;clear HB5;go_wp2_with fail;refine(zC9 C8.q HB9 (k:=g.code.length) (by have h9:=HK2.out;rw [Co.zBJ g] at h9;rw [Co.zBJ (Co.gB cs cl.fields (Co.emit g 19 0 0 1 0) b)];omega) (C8.b 3 rfl) (C8.b 2 rfl) (C8.lts (q:=X1) (by simp)).2.2 (C8.lts (q:=A1) (by simp)).2.2).mono ?_;rintro e w10 hp10;obtain⟨rfl,cv10,nv10,vv10,C10⟩:=Mg.done C8 hp10;clear hp10 C8;have HB11:Hid (Co.Bd (n+1+1+Co.wSs b+0+1) (Co.patch (Co.emit (Co.gB cs cl.fields (Co.emit (g) (19) 0 0 (1) 0) b) (18) 0 0 (0) 0) (g.code.length))/\n+1+1+Co.wSs b+0+1<=900000):=zh ⟨HB9.1.patch _,by have h9:=HT.out;omega⟩;clear HB9;have q4:=zX (C10.b 4 rfl);go_wp2_with fail;clear q4;refine(HBC l _ _ _ _ w10 (.slice pz NL cz) _ HD2 HV2 C10.q (kG C10.hB C10.le) ⟨HB11.1,by have:=HT.out;omega⟩ (Mg.sightS C10 1 rfl)).mono ?_;rintro e w12 hp12;obtain⟨rfl,cv12,nv12,vv12,C12⟩:=Mg.done C10 hp12;clear hp12 C10;have HB13:Hid (Co.Bd (n+1+1+Co.wSs b+0+1+Co.wSs l) (Co.gB cs cl.fields (Co.patch (Co.emit (Co.gB cs cl.fields (Co.emit (g) (19) 0 0 (1) 0) b) (18) 0 0 (0) 0) (g.code.length)) l)/\n+1+1+Co.wSs b+0+1+Co.wSs l<=900000):=zh ⟨(Co.zDD cs cl.fields _ _ l HB11.1).shut (HB11.1.mono (by omega)),by have h9:=HT.out;omega⟩;clear HB11;go_wp2_with fail;refine(zC9 C12.q HB13 (k:=(Co.gB cs cl.fields (Co.emit g 19 0 0 1 0) b).code.length) (by have h9:=zIA cs cl.fields (Co.patch (Co.emit (Co.gB cs cl.fields (Co.emit g 19 0 0 1 0) b) 18 0 0 0 0) g.code.length) l;rw [Co.zC8 (Co.emit (Co.gB cs cl.fields (Co.emit g 19 0 0 1 0) b) 18 0 0 0 0),Co.zBJ (Co.gB cs cl.fields (Co.emit g 19 0 0 1 0) b)] at h9;omega) (C12.b 1 rfl) (C12.b 0 rfl) (C12.lts (q:=X2) (by simp)).2.2 (C12.lts (q:=A2) (by simp)).2.2).mono ?_;rintro e w14 hp14;obtain⟨rfl,cv14,nv14,vv14,C14⟩:=Mg.done C12 hp14;clear hp14 C12;have HB15:Hid (Co.Bd (n+1+1+Co.wSs b+0+1+Co.wSs l) (Co.patch (Co.gB cs cl.fields (Co.patch (Co.emit (Co.gB cs cl.fields (Co.emit (g) (19) 0 0 (1) 0) b) (18) 0 0 (0) 0) (g.code.length)) l) ((Co.gB cs cl.fields (Co.emit g 19 0 0 1 0) b).code.length))/\n+1+1+Co.wSs b+0+1+Co.wSs l<=900000):=zh ⟨HB13.1.patch _,by have h9:=HT.out;omega⟩;clear HB13;go_wp2_with fail;go_end0;have h9:=Mg.fin C14.out;rw [HX.out] at h9;exact h9
end Cw
end Go.Proofs.YtcnmfcgmnkncaaaGreatDoor
