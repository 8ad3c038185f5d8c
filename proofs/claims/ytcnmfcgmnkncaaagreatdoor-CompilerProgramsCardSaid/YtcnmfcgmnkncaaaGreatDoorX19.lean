/-
  CkBlock, CkProgB, TrFit, CkRows.
-/
import Derived.Test.YtcnmfcgmnkncaaaGreatDoorX18
set_option maxRecDepth 100000
set_option maxHeartbeats 40000000
open Go.Proofs.Tryz
namespace Go.Proofs.YtcnmfcgmnkncaaaGreatDoor
open Go.RowKit Go.Maps Go.Shelf
theorem clone_any (B n:Nat) (l:List BA) (w:World) (h:SetB w B n l):
 Calls prog 127 #[.map (some B)] w fun e w'=>e= .returned (.map (some w.heap.size))/\SetB w' w.heap.size n l/\Below w.heap.size w w':=by
 have hcon:=AnyW.maps_Clone_owns Tryz.cloneSet 9 (plainElem prog 4) B n _ w h;change Calls prog 127 _ _ _ at hcon;refine hcon.mono ?_;rintro e w' ⟨rfl,h1,_,hb⟩;exact⟨rfl,h1,hb⟩
def varsOf:List Tr.S->List BA->List BA
 | [],v=>v
 |s::r,v=>varsOf r (Ck.addVar s.kind s.name v)
theorem zHG (l:List Tr.S) (x:Tr.S):∀v,varsOf (l++ [x]) v=Ck.addVar x.kind x.name (varsOf l v):=by
 induction l with
 |nil=>intro v;rfl
 |cons y r ih=>intro v;rw [List.cons_append,varsOf,varsOf,ih]
theorem zGQ (cs:List Tr.C) (c:Tr.C) (l:List Tr.S) (x:Tr.S) (t:Nat):∀v,Ck.zA2 cs c (l++ [x]) v t=(Ck.zA2 cs c l v t||Ck.faultS cs c x (varsOf l v) t):=by
 induction l with
 |nil=>intro v;cases x;rw [List.nil_append,Ck.zA2,Ck.zA2,Ck.zA2,varsOf,Bool.or_false,Bool.false_or]
 |cons y r ih=>intro v;cases y;rw [List.cons_append,Ck.zA2,Ck.zA2,ih,Bool.or_assoc];rfl
theorem zHI {l:List Tr.S} {j:Nat} {x:Tr.S} (h:Tr.zV l=true) (hj:l[j]? =some x):Tr.zI x=true:=by
 rw [Tr.zCM,List.all_eq_true] at h;exact h x (kM hj)
theorem zGJ {k:Int} {nm:BA} {x:List Tr.E} {b l:List Tr.S} (h:Tr.zI (.mk k nm x b l)=true):Tr.zT x=true/\Tr.okS k nm x.length b.length l.length=true/\Tr.zV b=true/\Tr.zV l=true:=by
 rw [Tr.zI,kW,kW,kW] at h;exact⟨h.1.1.1,h.1.1.2,h.1.2,h.2⟩
structure BHd (w:World) (P V n:Nat) (cv:Value) (c:Tr.C) (fv mv:Value) (vars:List BA) (f:Nat->Bool) (W:World):Prop where
 place:PlaceAt W P cv c fv mv f
 set:SetB W V n vars
 grown:w.grownBy W (some P)
section
variable {w:World} {P bx V n:Nat} {cv:Value} {c:Tr.C} {fv mv:Value} {vars:List BA} {cells:Array Value} {f:Nat->Bool} {W W':World}
theorem BHd.box (h:BHd w P V n cv c fv mv vars f W) (cells:Array Value) (t:TypeId):ESt w P W.heap.size V n cv c fv mv vars cells f (W.alloc (.cells cells t)):=
 ⟨h.place.keep (zD _ _),h.set.alloc _,zCP h.grown (World.grownBy_alloc _ _ _),fun j u hu=>zJ W cells t j u hu,by have:=h.place.lt;omega⟩
theorem BHd.congr (h:BHd w P V n cv c fv mv vars f W) {g:Nat->Bool} (he:∀t,f t=g t):BHd w P V n cv c fv mv vars g W:=⟨h.place.congr he,h.set,h.grown⟩
theorem ESt.head (h:ESt w P bx V n cv c fv mv vars cells f W):BHd w P V n cv c fv mv vars f W:=⟨h.place,h.set,h.grown⟩
theorem BHd.mono (h:BHd w P V n cv c fv mv vars f W) {n':Nat} (hn:n<=n'):BHd w P V n' cv c fv mv vars f W:=⟨h.place,h.set.mono hn,h.grown⟩
theorem ESt.put (h:ESt w P bx V n cv c fv mv vars cells f W) (hV:w.heap.size<=V) {u0:Value} (h0:cells[0]? =some u0) {vs:List BA} {m:Nat} (hs:SetB W' V m vs) (hg:W.grownBy W' (some V)):ESt w P bx V m cv c fv mv vs cells f W':=by
 have hne:=SetB.ne h.place h.set;have hbv:bx≠V:=by
  rintro rfl;exact zGU (h.box 0 u0 h0) h.set rfl
 refine⟨h.place.grown hg (by simpa using fun e=>hne e.symm),hs,⟨hg.os.trans h.grown.os,hg.tape.trans h.grown.tape,hg.output.trans h.grown.output,kG h.grown.size hg.size,fun k hk hkP=>?_⟩,fun j u hu=>hg.cell (h.box j u hu) (by simpa using hbv),h.ne⟩;rw [hg.block k (kP hk h.grown.size) (by simp;omega),h.grown.block k hk hkP]
end
theorem zIG {a0 a1 a2 a3 a4:Value} {q0 q1 q2 q3 q4:Addr} {w:World} {P bx B n:Nat} {cv:Value} {c:Tr.C} {fv mv:Value} {vars:List BA} {cells:Array Value} {f:Nat->Bool} {W W':World} (h:W.cell? q0=some a0/\W.cell? q1=some a1/\W.cell? q2=some a2/\W.cell? q3=some a3/\W.cell? q4=some a4/\Hid (ESt w P bx B n cv c fv mv vars cells f W)) (hb:Below W.heap.size W W'):
 W'.cell? q0=some a0/\W'.cell? q1=some a1/\W'.cell? q2=some a2/\W'.cell? q3=some a3/\W'.cell? q4=some a4/\Hid (ESt w P bx B n cv c fv mv vars cells f W'):=
 ⟨(zL (r:=none) hb).cell h.1 (by simp),(zL (r:=none) hb).cell h.2.1 (by simp),(zL (r:=none) hb).cell h.2.2.1 (by simp),(zL (r:=none) hb).cell h.2.2.2.1 (by simp),(zL (r:=none) hb).cell h.2.2.2.2.1 (by simp),h.2.2.2.2.2.keep hb⟩
theorem zNF {p0 p1 p2 p3 p4:Prop} {w:World} {P bx B n:Nat} {cv:Value} {c:Tr.C} {fv mv:Value} {vars:List BA} {cells:Array Value} {f:Nat->Bool} {W:World} (h:p0/\p1/\p2/\p3/\p4/\Hid (ESt w P bx B n cv c fv mv vars cells f W)):ESt w P bx B n cv c fv mv vars cells f W:=h.2.2.2.2.2.out
theorem zGF {p0 p1 p2 p3 p4:Prop} {w0 w:World} {P bx B n:Nat} {cv:Value} {c:Tr.C} {fv mv:Value} {vars:List BA} {cells:Array Value} {f:Nat->Bool} {W:World} (hb:Below w0.heap.size w0 w) (hP:w0.heap.size<=P) (h:p0/\p1/\p2/\p3/\p4/\Hid (ESt w P bx B n cv c fv mv vars cells f W)):Below w0.heap.size w0 W:=zO hb h.2.2.2.2.2.grown hP
theorem zFN {c:Tr.C} {vars:List BA} {nm:BA} {x:List Tr.E} {q:Nat} {m:Tr.M} {t:Nat} (h:Ck.zAM c.methods nm=some q) (hq:c.methods[q]? =some m):
 Ck.ownS c vars 8 nm x t=(t == 12 && decide (m.params.length≠1)):=by
 unfold Ck.ownS;rw [kC (by decide),kC (by decide),kC (by decide),kD rfl,h];simp only [];rw [hq]
 rfl
theorem okS2 {nm:BA} {n nb ne:Nat} (h:Tr.okS 2 nm n nb ne=true):n=2:=by
 rw [okS_2,kW] at h;exact(of_decide_eq_true h.1).1
def BlockOk (w0:World) (cs:List Tr.C) (cv:Value) (c:Tr.C) (fv mv:Value) (P d:Nat):Prop:=
 ∀(l:List Tr.S) (v:Value) (w:World) (f:Nat->Bool) (B n:Nat) (vars:List BA),Tr.S.deep.deeps l<=d->Tr.zV l=true->SlS w0 v l->Below w0.heap.size w0 w->PlaceAt w P cv c fv mv f->SetB w B n vars->n+Ck.lets l<=1000000->
  Calls prog 89 #[.pointer (some ⟨P,0,none⟩),v,.map (some B)] w fun r w'=>r= .returned (.tuple #[])/\PlaceAt w' P cv c fv mv (fun t=>f t||Ck.zA2 cs c l vars t)/\w.grownBy w' (some P)
theorem zSH (w0:World) (cs:List Tr.C) (cv:Value) (hcs:SlC w0 cv cs) (c:Tr.C) (fv mv:Value) (hfv:SlStr w0 fv c.fields) (hmv:SlM w0 mv c.methods) (P:Nat) (hP0:w0.heap.size<=P):∀(d:Nat),BlockOk w0 cs cv c fv mv P d:=by
 intro d
 induction d using Nat.strongRecOn with
 |ind d ih=>
  intro l v w f B n vars hd hvd hS hb hP hB hn;have KE:=zh (fun d=>expr_any w0 cs cv hcs c fv mv hfv P hP0 d);obtain⟨p,c5,rfl,_⟩:=hS.form;have hll:=hS.len;unfold maxLen at hll;obtain⟨pv,cpv,rfl⟩:=hcs.form;obtain⟨pf,cf,rfl⟩:=hfv.form;obtain⟨pm,cm,rfl⟩:=hmv.form;have hml:=hmv.len;unfold maxLen at hml;obtain⟨N,hN⟩:∃N,l.length=N:=⟨_,rfl⟩;obtain⟨CN,hCN⟩:∃N,cs.length=N:=⟨_,rfl⟩;obtain⟨FN,hFN⟩:∃N,c.fields.length=N:=⟨_,rfl⟩;obtain⟨MN,hMN⟩:∃N,c.methods.length=N:=⟨_,rfl⟩;have HMN:=zh hMN;rw [hN] at hS hll;rw [hMN] at hml;rw [hCN,hFN,hMN] at ih hP KE;rw [hFN] at hfv;rw [hMN] at hmv;have HS:=zh hS;have HN:=zh hN;have HD:=zh hd;have HIH:=zh ih;have HVS:=zh hvd;have HBW:=zh hb;have HFV:=zh hfv;have HMV:=zh hmv;have HP:=zh hP;have HBB:=zh hB;have HNL:=zh hn;rw [hN,hCN,hFN,hMN];have KA:Hid (∀(W:World) (q:Nat) (z:Int) (b:Bool) (g:Nat->Bool),z=q->q<13->PlaceAt W P (.slice pv CN cpv) c (.slice pf FN cf) (.slice pm MN cm) g->Calls prog 84 #[.pointer (some ⟨P,0,none⟩),.int .i64 z,.bool b] W fun e w'=>e= .returned (.tuple #[])/\PlaceAt w' P (.slice pv CN cpv) c (.slice pf FN cf) (.slice pm MN cm) (fun t=>g t||(t == q && b))/\W.grownBy w' (some P)):=fun W q z b g hz hq hp=>by rw [hz];exact zBU P q b W _ c _ _ g hq hp
  have KC:Hid (∀(W:World) (nm:BA),Below w0.heap.size w0 W->Calls prog 129 #[(.slice pf FN cf),.string nm] W fun e w'=>e= .returned (.bool (Ck.hasS c.fields nm))/\w'=W):=fun W nm hb=>by have:=zGT _ _ nm _ (HFV.keep hb);exact this
  have KM:Hid (∀(W:World) (nm:BA),Below w0.heap.size w0 W->Calls prog 87 #[.agg #[.string c.name,.bool c.actor,(.slice pf FN cf),(.slice pm MN cm)],.string nm] W fun e w'=>e= .returned (.tuple #[.int .i64 ((Ck.zAM c.methods nm).getD 0:Nat),.bool (Ck.zAM c.methods nm).isSome])/\Below W.heap.size W w'):=fun W nm hb=>by have:=method_any nm c _ _ W (HFV.keep hb) (HMV.keep hb);unfold classV at this;exact this
  have KCLN:=zh (clone_any B n vars w hB);clear hS hcs hfv hmv hN hd ih hvd hb hCN hFN hP hB hn hMN;go_in;go_wp2_with fail;refine KCLN.mono ?_;rintro e w1 ⟨rfl,hs1,hb1⟩;have HH0:Hid (BHd w P w.heap.size n (.slice pv CN cpv) c (.slice pf FN cf) (.slice pm MN cm) vars f w1):=zh ⟨HP.keep hb1,hs1,zL hb1⟩;clear hs1 hb1 KCLN;go_wp2
  go_loopg [17] N (fun g s17 wr=>∃j:Nat,s17= .int .i64 j/\j<=N/\g=N -j/\Hid (BHd w P w.heap.size (n+Ck.lets (l.take j)) (.slice pv CN cpv) c (.slice pf FN cf) (.slice pm MN cm) (varsOf (l.take j) vars) (fun t=>f t||Ck.zA2 cs c (l.take j) vars t) wr))
  case atStart=>exact ⟨0,rfl,kO _,rfl,zh ((HH0.mono (by simp [Ck.lets])).congr (fun t=>by rw [List.take_zero,Ck.zA2,Bool.or_false]))⟩
  case round=>
   obtain⟨j,rfl,hj,rfl,HST⟩:=hrel;by_cases hlt:j<N
   ·obtain⟨x,hx⟩:∃x,l[j]? =some x:=⟨_,kB (by rw [HN.out];exact hlt)⟩;have HBR:=zh (zO HBW HST.grown hP0);obtain⟨b,oo,vx,vy,vz,rfl,hblt,hc,hbd,hsx,hsy,hsz⟩:=HS.get hx;have hnext:=zFR hx;have htk:=zCW l (j+1);have hnl:=HNL.out;obtain⟨dp1,dp2,dp3⟩:=Tr.S.deep_in HD hx;have hvx:=zHI HVS hx;have hsnoc:Hid (∀t,Ck.zA2 cs c (l.take (j+1)) vars t=(Ck.zA2 cs c (l.take j) vars t||Ck.faultS cs c x (varsOf (l.take j) vars) t)):=fun t=>by rw [zA3 hx,zGQ]
    have hvarn:Hid (varsOf (l.take (j+1)) vars=Ck.addVar x.kind x.name (varsOf (l.take j) vars)):=by show _=_;rw [zA3 hx,zHG]
    obtain⟨k,nm,xs,bd,el⟩:=x;simp only [Tr.S.kind,Tr.S.name,Tr.S.exprs,Tr.S.body,Tr.S.els] at hbd hsx hsy hsz hnext dp2 dp3 hvarn;have hnm:nm.size<=maxLen:=hbd.name;obtain⟨vxe,vok,vbd,vel⟩:=zGJ hvx;obtain⟨x0,x1,x2,x3,x4⟩:=hc.keep HBR;simp only [Tr.S.kind,Tr.S.name] at x0 x1;obtain⟨px,cx,rfl,_⟩:=hsx.form;obtain⟨py,cy,rfl,_⟩:=hsy.form;obtain⟨pz,cz,rfl,_⟩:=hsz.form;have hxl:=hsx.len;unfold maxLen at hxl;obtain⟨XN,hXN⟩:∃N,xs.length=N:=⟨_,rfl⟩;obtain⟨YN,hYN⟩:∃N,bd.length=N:=⟨_,rfl⟩;obtain⟨ZN,hZN⟩:∃N,el.length=N:=⟨_,rfl⟩;rw [hXN] at hsx x2 hxl;rw [hYN] at hsy x3;rw [hZN] at hsz x4;rw [hXN,hYN,hZN] at vok;obtain⟨nn,hnn⟩:∃q,n+Ck.lets (l.take j)=q:=⟨_,rfl⟩;obtain⟨vs,hvs⟩:∃q,varsOf (l.take j) vars=q:=⟨_,rfl⟩;obtain⟨fj,hfj⟩:∃q:Nat->Bool,(fun t=>f t||Ck.zA2 cs c (l.take j) vars t)=q:=⟨_,rfl⟩;have hnext:Ck.lets (l.take (j+1))=Ck.lets (l.take j)+((if k=0 then 1 else 0)+Ck.lets bd+Ck.lets el):=hnext;have hbd1:nn+((if k=0 then 1 else 0)+Ck.lets bd+Ck.lets el)<=1000000
     :=by omega
    have hnx:n+Ck.lets (l.take (j+1))=nn+((if k=0 then 1 else 0)+Ck.lets bd+Ck.lets el):=(by omega);have HBD:=zh hbd1;have HNX:=zh hnx;have hnn1:nn<=1000000:=(by omega);have HFJ:=zh hfj;rw [hvs] at hsnoc hvarn;rw [hnn,hvs,hfj] at HST;have HX:=zh hx;have HXN:=zh hXN;have HSX:=zh hsx;have HSY:=zh hsy;have HSZ:=zh hsz;have HVX:=zh vxe;have HOK:=zh vok;have HVB:=zh vbd;have HVE:=zh vel;have HE0:=zh (HST.box #[.int .i64 k,.string nm,.slice px XN cx,.slice py YN cy,.slice pz ZN cz] 71);obtain⟨w2,hw2⟩:∃w2,w2=wr.alloc (.cells #[.int .i64 k,.string nm,.slice px XN cx,.slice py YN cy,.slice pz ZN cz] 71):=⟨_,rfl⟩;obtain⟨bx,hbx⟩:∃q,wr.heap.size=q:=⟨_,rfl⟩;rw [<-hw2,hbx] at HE0;have HW2:=zh hw2;have HBX:=zh hbx;have hk1:=hbd.kind;have hk1':Tr.I64 k:=hk1;clear hx hc hbd hsx hsy hsz hnext htk hnl hvx vxe vok vbd vel hXN hYN hZN hnn hvs hfj hbd1 hnx hw2 hk1 hbx;go_upto_region 4 with fail;rw [<-HW2.out,HBX.out];clear x0 x1 x2 x3 x4;have b2:=HE0.box 2 _ rfl
    go_upto_block 2 with fail
    go_cut [10] (fun _ wx=>Hid (ESt w P bx w.heap.size nn (.slice pv CN cpv) c (.slice pf FN cf) (.slice pm MN cm) vs #[.int .i64 k,.string nm,.slice px XN cx,.slice py YN cy,.slice pz ZN cz] (fun t=>fj t||Ck.zAA cs c.fields vs xs t) wx))
    case first=>
     go_wp2
     go_loopg [24] XN (fun g s24 wq=>∃i:Nat,s24= .int .i64 i/\i<=XN/\g=XN -i/\Hid (ESt w P bx w.heap.size nn (.slice pv CN cpv) c (.slice pf FN cf) (.slice pm MN cm) vs #[.int .i64 k,.string nm,.slice px XN cx,.slice py YN cy,.slice pz ZN cz] (fun t=>fj t||Ck.zAA cs c.fields vs (xs.take i) t) wq))
     case atStart=>exact ⟨0,rfl,kO _,rfl,zh (HE0.congr (fun t=>by rw [List.take_zero,Ck.zAA,Bool.or_false]))⟩
     case round=>
      obtain⟨i,rfl,hi,rfl,HQ⟩:=hrel;by_cases hil:i<XN
      ·obtain⟨y,hy⟩:∃y,xs[i]? =some y:=⟨_,kB (by rw [HXN.out];exact hil)⟩;have HBQ:=zh (zO HBW HQ.grown hP0);obtain⟨b2',o2',aa,rfl,_,hcy,hbdy,hsl⟩:=HSX.get hy;obtain⟨y0,y1,y2,y3,y4,y5⟩:=hcy.keep HBQ;obtain⟨pa,ca,rfl,_⟩:=hsl.form;obtain⟨AN,hAN⟩:∃N,y.args.length=N:=⟨_,rfl⟩;rw [hAN] at hsl y5;have hbx2:=zD wr (.cells #[.int .i64 y.kind,.int .i64 y.op,.int .i64 y.int,.string y.name,.bool y.at_,.slice pa AN ca] 37);have hcall:=KE _ y (.slice pa AN ca) _ _ w.heap.size nn vs (kL _) (zDL HVX hy) hbdy hsl (HBQ.trans (hbx2.mono HBQ.size)) (HQ.place.keep hbx2) (HQ.set.keep hbx2);unfold zK at hcall;have HY:=zh hy;have HBX2:=zh hbx2;have HCALL:=zh hcall;clear hy hbdy hsl hcy hAN hbx2 hcall;go_wp2_with fail;refine HCALL.mono ?_;rintro e w3 ⟨rfl,hP2,hg2⟩;have HN2:=zh ((HQ.keep HBX2).next hP2 hg2);clear hP2 hg2;go_wp2;go_roundg (XN -(i+1))
       case measure=>omega
       case rel=>exact ⟨i+1,by go_num,by omega,rfl,zh (HN2.congr (fun t=>by rw [zA3 HY.out,zCY,Bool.or_assoc]))⟩
      ·go_wp2;go_meet;have hfull:xs.take i=xs:=kR (by rw [HXN.out];omega);exact zh (HQ.congr (fun t=>by rw [hfull]))
    case rest=>
     have HL:=hcut;clear hcut HE0 b2;have b0:=HL.box 0 _ rfl;have b1:=HL.box 1 _ rfl;have HBL:=zh (zO HBW HL.grown hP0)
     go_upto_block 4 with fail
     go_cut [11,12] (fun _ _ wx=>Hid (ESt w P bx w.heap.size (nn+(if k=0 then 1 else 0)) (.slice pv CN cpv) c (.slice pf FN cf) (.slice pm MN cm) (Ck.addVar k nm vs) #[.int .i64 k,.string nm,.slice px XN cx,.slice py YN cy,.slice pz ZN cz] (fun t=>(fj t||Ck.zAA cs c.fields vs xs t)||Ck.ownS c vs k nm xs t) wx))
     case first=>
      by_cases hk0:k=0
      ·subst hk0;have hlk:=HL.set.look nm hnm;clear hk1';go_wp2_with fail;refine(KA _ 6 6 _ _ rfl (by omega) HL.place).mono ?_;rintro e w4 ⟨rfl,hP4,hg4⟩;have HL0:=zh (HL.next hP4 hg4);clear hP4 hg4 hlk b0 b1;have e1:=HL0.box 1 _ rfl;go_wp2_with (at_mapUpdate;refine zCZ _ rfl _ _ _ rfl w.heap.size nn vs rfl HL0.set (by unfold maxLen;omega) nm hnm rfl rfl ?_;intro w5 hs5 hg5);go_meet;exact zh ((HL0.put (kL _) (u0:= .int .i64 0) rfl hs5 hg5).congr (fun t=>by rfl))
      ·by_cases hk2:k=1
       ·subst hk2;have hlk:=HL.set.look nm hnm;clear hk1';go_wp2_with fail;refine(KA _ 7 7 _ _ rfl (by omega) HL.place).mono ?_;rintro e w4 ⟨rfl,hP4,hg4⟩;have HL0:=zh (HL.next hP4 hg4);clear hP4 hg4 hlk b0 b1;go_wp2;go_meet;exact zh ((HL0).congr (fun t=>by rfl))
       ·by_cases hk3:k=2
        ·subst hk3;have hX2:XN=2:=okS2 HOK;obtain⟨y,hy⟩:∃x,xs[0]? =some x:=⟨_,kB (by rw [HXN.out];omega)⟩;obtain⟨b',oo',aa,rfl,_,hcy,hbdy,hsl⟩:=HSX.get hy;rw [Nat.zero_mul,Nat.add_zero] at hcy;have y0:=(hcy.keep HBL).1;have hhead:Hid (Ck.zA9 xs=y.kind):=by
          show _=_
          cases hl:xs with
          |nil=>rw [hl] at hy;cases hy
          |cons z r=>rw [hl] at hy;cases hy;rfl
         have hX0:0<XN:=(by omega);have b2:=HL.box 2 _ rfl;have q3:=HL.place.cell (j:=3) (u:=(.slice pf FN cf)) rfl;clear hy hcy hbdy hsl hX2 hk1' hk0 hk2;by_cases hth:y.kind=2
         ·have hth1:(y.kind == 2)=true:=kX.2 hth;have HTH:=zh hth;clear hth;go_wp2_with fail;refine wp_region_still_tail 18 (by kernel_rfl) (by kernel_rfl) ?_;simp only [List.take_succ_cons,List.take_zero,List.drop_succ_cons,List.drop_zero]
          repeat still_step
          still_call (KC wc.drew nm HBL.drew)
          repeat still_step
          refine wpStill_nil ?_;change wpList _ _ _ _ _ wc.drew;have HEd:=zh HL.drew;obtain⟨wd,hwd⟩:∃wd,wd=wc.drew:=⟨_,rfl⟩;rw [<-hwd] at HEd |-;clear hwd;go_wp2_with fail;refine(KA _ 10 10 _ _ rfl (by omega) HEd.place).mono ?_;rintro e w4 ⟨rfl,hP4,hg4⟩;have HL0:=zh (HEd.next hP4 hg4);clear hP4 hg4 b0 b1 b2 y0 q3 hth1;go_wp2;go_meet;exact zh ((HL0).congr (fun t=>by unfold Ck.ownS;rw [kC (by decide),kC (by decide),kD rfl,hhead.out,kS HTH.out,Bool.and_true]))
         ·have HTH:=zh hth;clear hth;go_wp2_with fail;refine wp_region_still_tail 18 (by kernel_rfl) (by kernel_rfl) ?_;simp only [List.take_succ_cons,List.take_zero,List.drop_succ_cons,List.drop_zero]
          iterate 8 still_step
          iterate 9 (refine wpStill_step (fun K hK=>?_);go_simp;rw [kC HTH.out];refine hK _ ?_;clear hK K)
          have hth1:(y.kind == 2)=false:=kA.2 HTH;still_step;refine wpStill_nil ?_;change wpList _ _ _ _ _ wc.drew;have HEd:=zh HL.drew;obtain⟨wd,hwd⟩:∃wd,wd=wc.drew:=⟨_,rfl⟩;rw [<-hwd] at HEd |-;clear hwd;go_wp2_with fail;refine(KA _ 10 10 _ _ rfl (by omega) HEd.place).mono ?_;rintro e w4 ⟨rfl,hP4,hg4⟩;have HL0:=zh (HEd.next hP4 hg4);clear hP4 hg4 b0 b1 b2 y0 q3 hth1;go_wp2;go_meet;exact zh ((HL0).congr (fun t=>by unfold Ck.ownS;rw [kC (by decide),kC (by decide),kD rfl,hhead.out,kE HTH.out,Bool.and_false,Bool.false_and]))
        ·by_cases hk4:k=8
         ·subst hk4;have q1:=HL.place.cell (j:=1) (u:= .string c.name) rfl;have q2:=HL.place.cell (j:=2) (u:= .bool c.actor) rfl;have q3:=HL.place.cell (j:=3) (u:=(.slice pf FN cf)) rfl;have q4:=HL.place.cell (j:=4) (u:=(.slice pm MN cm)) rfl;clear hk1' hk0 hk2 hk3;cases hcl:Ck.zAM c.methods nm with
          |none=>
           have KM0:=zh (fun W hb=>KM W nm hb);simp only [hcl,Option.getD_none,Option.isSome_none] at KM0;have HCL:=zh hcl;clear hcl;go_wp2_with fail
           go_region_held3 (fun w'=>w'.cell? ⟨P,1,none⟩=some (.string c.name)/\w'.cell? ⟨P,2,none⟩=some (.bool c.actor)/\w'.cell? ⟨P,3,none⟩=some (.slice pf FN cf)/\w'.cell? ⟨P,4,none⟩=some (.slice pm MN cm)/\w'.cell? ⟨bx,1,none⟩=some (.string nm)/\Hid (ESt w P bx w.heap.size nn (.slice pv CN cpv) c (.slice pf FN cf) (.slice pm MN cm) vs #[.int .i64 8,.string nm,.slice px XN cx,.slice py YN cy,.slice pz ZN cz] (fun t=>fj t||Ck.zAA cs c.fields vs xs t) w')) (first|exact zIG (by assumption) hb|exact ⟨q1,q2,q3,q4,b1,HL⟩|exact ⟨q1,q2,q3,q4,b1,zh HL.out.drew⟩|go_keep) (first|(go_at_call 87;(with_reducible refine(KM0.out _ (zGF HBW.out hP0 (by assumption))).mono ?_);rintro e w' ⟨rfl,hb⟩))
           have HL0:=zh (zNF (by assumption));clear b0 b1 q1 q2 q3 q4;go_wp2_with fail;refine(KA _ 11 11 _ _ rfl (by omega) HL0.place).mono ?_;rintro e w4 ⟨rfl,hP4,hg4⟩;have HL1:=zh (HL0.next hP4 hg4);clear hP4 hg4;go_wp2_with fail;refine(KA _ 12 12 _ _ rfl (by omega) HL1.place).mono ?_;rintro e w5 ⟨rfl,hP5,hg5⟩;have HL2:=zh (HL1.next hP5 hg5);clear hP5 hg5;go_wp2;go_meet;exact zh ((HL2).congr (fun t=>by unfold Ck.ownS;rw [kC (by decide),kC (by decide),kC (by decide),kD rfl,HCL.out];simp))
          |some q=>
           have KM0:=zh (fun W hb=>KM W nm hb);simp only [hcl,Option.getD_some,Option.isSome_some] at KM0;have hql:=zGE hcl;obtain⟨mm,hq⟩:∃x,c.methods[q]? =some x:=⟨_,kB hql⟩;obtain⟨bm,om,vp,vb,rfl,_,hcm,_,hsp,_⟩:=HMV.get hq;obtain⟨pp,cp,rfl⟩:=hsp.form;obtain⟨PL,hPL⟩:∃N,mm.params.length=N:=⟨_,rfl⟩;have HC2:=zh hcm.2.1;rw [hPL] at HC2;have HPL:=zh hPL;have HCL:=zh hcl;have hi:=zh hq;rw [HMN.out] at hql;clear hcl hq hcm hsp hPL;by_cases h1:PL=1
           ·skip;have h1b:((PL:Int) != 1)=false:=by rw [h1];rfl
            have H1:=zh h1;clear h1;go_wp2_with fail
            go_region_held3 (fun w'=>w'.cell? ⟨P,1,none⟩=some (.string c.name)/\w'.cell? ⟨P,2,none⟩=some (.bool c.actor)/\w'.cell? ⟨P,3,none⟩=some (.slice pf FN cf)/\w'.cell? ⟨P,4,none⟩=some (.slice (some ⟨bm,om,none⟩) MN cm)/\w'.cell? ⟨bx,1,none⟩=some (.string nm)/\Hid (ESt w P bx w.heap.size nn (.slice pv CN cpv) c (.slice pf FN cf) (.slice (some ⟨bm,om,none⟩) MN cm) vs #[.int .i64 8,.string nm,.slice px XN cx,.slice py YN cy,.slice pz ZN cz] (fun t=>fj t||Ck.zAA cs c.fields vs xs t) w')) (first|exact zIG (by assumption) hb|exact ⟨q1,q2,q3,q4,b1,HL⟩|exact ⟨q1,q2,q3,q4,b1,zh HL.out.drew⟩|go_keep) (first|(go_at_call 87;(with_reducible refine(KM0.out _ (zGF HBW.out hP0 (by assumption))).mono ?_);rintro e w' ⟨rfl,hb⟩))
            have HL0:=zh (zNF (by assumption));clear b0 b1 q1 q2 q3 q4;go_wp2_with fail;refine(KA _ 11 11 _ _ rfl (by omega) HL0.place).mono ?_;rintro e w4 ⟨rfl,hP4,hg4⟩;have HL1:=zh (HL0.next hP4 hg4);clear hP4 hg4;have HB3:=zh (zO HBW HL1.grown hP0);have q4:=HL1.place.cell (j:=4) (u:= .slice (some ⟨bm,om,none⟩) MN cm) rfl;have z2:=zA HB3 HC2;go_wp2_with fail;refine(KA _ 12 12 _ _ rfl (by omega) HL1.place).mono ?_;rintro e w5 ⟨rfl,hP5,hg5⟩;have HL2:=zh (HL1.next hP5 hg5);clear hP5 hg5 q4 z2;go_wp2;go_meet;exact zh ((HL2).congr (fun t=>by rw [zFN HCL.out hi.out,HPL.out,kE (p:=PL≠1) (by have:=H1.out;omega)];simp))
           ·skip;have h1b:((PL:Int) != 1)=true:=by rw [bne_iff_ne];omega
            have H1:=zh h1;clear h1;go_wp2_with fail
            go_region_held3 (fun w'=>w'.cell? ⟨P,1,none⟩=some (.string c.name)/\w'.cell? ⟨P,2,none⟩=some (.bool c.actor)/\w'.cell? ⟨P,3,none⟩=some (.slice pf FN cf)/\w'.cell? ⟨P,4,none⟩=some (.slice (some ⟨bm,om,none⟩) MN cm)/\w'.cell? ⟨bx,1,none⟩=some (.string nm)/\Hid (ESt w P bx w.heap.size nn (.slice pv CN cpv) c (.slice pf FN cf) (.slice (some ⟨bm,om,none⟩) MN cm) vs #[.int .i64 8,.string nm,.slice px XN cx,.slice py YN cy,.slice pz ZN cz] (fun t=>fj t||Ck.zAA cs c.fields vs xs t) w')) (first|exact zIG (by assumption) hb|exact ⟨q1,q2,q3,q4,b1,HL⟩|exact ⟨q1,q2,q3,q4,b1,zh HL.out.drew⟩|go_keep) (first|(go_at_call 87;(with_reducible refine(KM0.out _ (zGF HBW.out hP0 (by assumption))).mono ?_);rintro e w' ⟨rfl,hb⟩))
            have HL0:=zh (zNF (by assumption));clear b0 b1 q1 q2 q3 q4;go_wp2_with fail;refine(KA _ 11 11 _ _ rfl (by omega) HL0.place).mono ?_;rintro e w4 ⟨rfl,hP4,hg4⟩;have HL1:=zh (HL0.next hP4 hg4);clear hP4 hg4;have HB3:=zh (zO HBW HL1.grown hP0);have q4:=HL1.place.cell (j:=4) (u:= .slice (some ⟨bm,om,none⟩) MN cm) rfl;have z2:=zA HB3 HC2;go_wp2_with fail;refine(KA _ 12 12 _ _ rfl (by omega) HL1.place).mono ?_;rintro e w5 ⟨rfl,hP5,hg5⟩;have HL2:=zh (HL1.next hP5 hg5);clear hP5 hg5 q4 z2;go_wp2;go_meet;exact zh ((HL2).congr (fun t=>by rw [zFN HCL.out hi.out,HPL.out,kS (p:=PL≠1) (by have:=H1.out;omega)];simp))
         ·have h0b:(k == 0)=false:=kA.2 hk0;have h1b:(k == 1)=false:=kA.2 hk2;have h2b:(k == 2)=false:=kA.2 hk3;have h8b:(k == 8)=false:=kA.2 hk4;have hown:Hid (∀t,Ck.ownS c vs k nm xs t=false):=fun t=>by unfold Ck.ownS;rw [kC hk0,kC hk2,kC hk3,kC hk4]
          have hav:Hid (Ck.addVar k nm vs=vs):=by show _=_;unfold Ck.addVar;rw [kC hk0]
          have HK0:=zh hk0;clear hk0 hk2 hk3 hk4 hk1';go_wp2;go_meet;rw [hav.out,kC HK0.out];exact zh (HL.congr (fun t=>by rw [hown.out,Bool.or_false]))
     case rest=>
      have HM:=hcut;clear hcut b0 b1 KA KC KM;have b3:=HM.box 3 _ rfl;have b4:=HM.box 4 _ rfl;have HBM:=zh (zO HBW HM.grown hP0);go_wp2_with fail;refine(HIH (d -1) (by omega) bd _ _ _ w.heap.size _ _ dp2 HVB (by have:=HSY.out;exact this) HBM HM.place HM.set (by have:=HBD.out;omega)).mono ?_;rintro e w5 ⟨rfl,hP5,hg5⟩;have HM5:=zh (HM.next hP5 hg5);have HBM5:=zh (zO HBW HM5.grown hP0);have d4:=HM5.box 4 _ rfl;clear hP5 hg5 b3 b4;go_wp2_with fail;refine(HIH (d -1) (by omega) el _ _ _ w.heap.size _ _ dp3 HVE (by have:=HSZ.out;exact this) HBM5 HM5.place HM5.set (by have:=HBD.out;omega)).mono ?_;rintro e w6 ⟨rfl,hP6,hg6⟩;have HM6:=zh (HM5.next hP6 hg6);clear hP6 hg6 d4;go_wp2;go_roundg (N -(j+1))
      case measure=>omega
      case rel=>
       refine⟨j+1,by go_num,by omega,rfl,zh ?_⟩;rw [HNX.out,hvarn.out];refine(HM6.head.mono (by omega)).congr (fun t=>?_);rw [hsnoc.out t,<-HFJ.out,Ck.faultS];simp only [Bool.or_assoc]
   ·go_wp2_with fail;go_end0;have hfull:l.take j=l:=kR (by rw [HN.out];omega);refine⟨rfl,HST.place.congr (fun t=>?_),HST.grown⟩;rw [hfull]
end Go.Proofs.YtcnmfcgmnkncaaaGreatDoor
namespace Go.Proofs.YtcnmfcgmnkncaaaGreatDoor
open Go.RowKit
def faultRow (nm:BA) (ts:List Nat):List Value:=ts.flatMap fun (t:Nat)=> [Value.string nm,.int .i64 (t:Int)]
def foundTo (f:Nat->Bool) (k:Nat):List Nat:=(List.range k).filter f
theorem zIC {f:Nat->Bool} {k:Nat} (h:f k=true):foundTo f (k+1)=foundTo f k++ [k]:=by
 unfold foundTo;rw [List.range_succ,List.filter_append];simp [h]
theorem zJJ {f:Nat->Bool} {k:Nat} (h:f k=false):foundTo f (k+1)=foundTo f k:=by
 unfold foundTo;rw [List.range_succ,List.filter_append];simp [h]
theorem zID (f:Nat->Bool) (k:Nat):(foundTo f k).length<=k:=by
 unfold foundTo;have:=List.length_filter_le f (List.range k)
 simpa using this
theorem zKJ (nm:BA) (ts:List Nat) (t:Nat):faultRow nm (ts++ [t])=faultRow nm ts++ [.string nm,.int .i64 t]:=by
 unfold faultRow;rw [List.flatMap_append];rfl
theorem zRU (x0 x1 x2 x3 x4 x5 x6 x7 x8 x9 x10 x11 x12:Bool) (w:World):(Instr.index 142 (.agg #[.bool x0,.bool x1,.bool x2,.bool x3,.bool x4,.bool x5,.bool x6,.bool x7,.bool x8,.bool x9,.bool x10,.bool x11,.bool x12]) (.int .i64 0)).run prog w= .ok (.bool x0) w:=by kernel_rfl
theorem zRT (x0 x1 x2 x3 x4 x5 x6 x7 x8 x9 x10 x11 x12:Bool) (w:World):(Instr.index 142 (.agg #[.bool x0,.bool x1,.bool x2,.bool x3,.bool x4,.bool x5,.bool x6,.bool x7,.bool x8,.bool x9,.bool x10,.bool x11,.bool x12]) (.int .i64 1)).run prog w= .ok (.bool x1) w:=by kernel_rfl
theorem zRS (x0 x1 x2 x3 x4 x5 x6 x7 x8 x9 x10 x11 x12:Bool) (w:World):(Instr.index 142 (.agg #[.bool x0,.bool x1,.bool x2,.bool x3,.bool x4,.bool x5,.bool x6,.bool x7,.bool x8,.bool x9,.bool x10,.bool x11,.bool x12]) (.int .i64 2)).run prog w= .ok (.bool x2) w:=by kernel_rfl
theorem zRR (x0 x1 x2 x3 x4 x5 x6 x7 x8 x9 x10 x11 x12:Bool) (w:World):(Instr.index 142 (.agg #[.bool x0,.bool x1,.bool x2,.bool x3,.bool x4,.bool x5,.bool x6,.bool x7,.bool x8,.bool x9,.bool x10,.bool x11,.bool x12]) (.int .i64 3)).run prog w= .ok (.bool x3) w:=by kernel_rfl
theorem zRQ (x0 x1 x2 x3 x4 x5 x6 x7 x8 x9 x10 x11 x12:Bool) (w:World):(Instr.index 142 (.agg #[.bool x0,.bool x1,.bool x2,.bool x3,.bool x4,.bool x5,.bool x6,.bool x7,.bool x8,.bool x9,.bool x10,.bool x11,.bool x12]) (.int .i64 4)).run prog w= .ok (.bool x4) w:=by kernel_rfl
theorem zRP (x0 x1 x2 x3 x4 x5 x6 x7 x8 x9 x10 x11 x12:Bool) (w:World):(Instr.index 142 (.agg #[.bool x0,.bool x1,.bool x2,.bool x3,.bool x4,.bool x5,.bool x6,.bool x7,.bool x8,.bool x9,.bool x10,.bool x11,.bool x12]) (.int .i64 5)).run prog w= .ok (.bool x5) w:=by kernel_rfl
theorem zRO (x0 x1 x2 x3 x4 x5 x6 x7 x8 x9 x10 x11 x12:Bool) (w:World):(Instr.index 142 (.agg #[.bool x0,.bool x1,.bool x2,.bool x3,.bool x4,.bool x5,.bool x6,.bool x7,.bool x8,.bool x9,.bool x10,.bool x11,.bool x12]) (.int .i64 6)).run prog w= .ok (.bool x6) w:=by kernel_rfl
theorem zRN (x0 x1 x2 x3 x4 x5 x6 x7 x8 x9 x10 x11 x12:Bool) (w:World):(Instr.index 142 (.agg #[.bool x0,.bool x1,.bool x2,.bool x3,.bool x4,.bool x5,.bool x6,.bool x7,.bool x8,.bool x9,.bool x10,.bool x11,.bool x12]) (.int .i64 7)).run prog w= .ok (.bool x7) w:=by kernel_rfl
theorem zRM (x0 x1 x2 x3 x4 x5 x6 x7 x8 x9 x10 x11 x12:Bool) (w:World):(Instr.index 142 (.agg #[.bool x0,.bool x1,.bool x2,.bool x3,.bool x4,.bool x5,.bool x6,.bool x7,.bool x8,.bool x9,.bool x10,.bool x11,.bool x12]) (.int .i64 8)).run prog w= .ok (.bool x8) w:=by kernel_rfl
theorem zRL (x0 x1 x2 x3 x4 x5 x6 x7 x8 x9 x10 x11 x12:Bool) (w:World):(Instr.index 142 (.agg #[.bool x0,.bool x1,.bool x2,.bool x3,.bool x4,.bool x5,.bool x6,.bool x7,.bool x8,.bool x9,.bool x10,.bool x11,.bool x12]) (.int .i64 9)).run prog w= .ok (.bool x9) w:=by kernel_rfl
theorem zPM (x0 x1 x2 x3 x4 x5 x6 x7 x8 x9 x10 x11 x12:Bool) (w:World):(Instr.index 142 (.agg #[.bool x0,.bool x1,.bool x2,.bool x3,.bool x4,.bool x5,.bool x6,.bool x7,.bool x8,.bool x9,.bool x10,.bool x11,.bool x12]) (.int .i64 10)).run prog w= .ok (.bool x10) w:=by kernel_rfl
theorem zPL (x0 x1 x2 x3 x4 x5 x6 x7 x8 x9 x10 x11 x12:Bool) (w:World):(Instr.index 142 (.agg #[.bool x0,.bool x1,.bool x2,.bool x3,.bool x4,.bool x5,.bool x6,.bool x7,.bool x8,.bool x9,.bool x10,.bool x11,.bool x12]) (.int .i64 11)).run prog w= .ok (.bool x11) w:=by kernel_rfl
theorem zPK (x0 x1 x2 x3 x4 x5 x6 x7 x8 x9 x10 x11 x12:Bool) (w:World):(Instr.index 142 (.agg #[.bool x0,.bool x1,.bool x2,.bool x3,.bool x4,.bool x5,.bool x6,.bool x7,.bool x8,.bool x9,.bool x10,.bool x11,.bool x12]) (.int .i64 12)).run prog w= .ok (.bool x12) w:=by kernel_rfl
theorem zNA (f:Nat->Bool) {k:Nat} (hk:k<13) (w:World):
 (Instr.index 142 (.agg #[.bool (f 0),.bool (f 1),.bool (f 2),.bool (f 3),.bool (f 4),.bool (f 5),.bool (f 6),.bool (f 7),.bool (f 8),.bool (f 9),.bool (f 10),.bool (f 11),.bool (f 12)]) (.int .i64 k)).run prog w= .ok (.bool (f k)) w:=by
 match k,hk with
 |0,_=>exact zRU _ _ _ _ _ _ _ _ _ _ _ _ _ w
 |1,_=>exact zRT _ _ _ _ _ _ _ _ _ _ _ _ _ w
 |2,_=>exact zRS _ _ _ _ _ _ _ _ _ _ _ _ _ w
 |3,_=>exact zRR _ _ _ _ _ _ _ _ _ _ _ _ _ w
 |4,_=>exact zRQ _ _ _ _ _ _ _ _ _ _ _ _ _ w
 |5,_=>exact zRP _ _ _ _ _ _ _ _ _ _ _ _ _ w
 |6,_=>exact zRO _ _ _ _ _ _ _ _ _ _ _ _ _ w
 |7,_=>exact zRN _ _ _ _ _ _ _ _ _ _ _ _ _ w
 |8,_=>exact zRM _ _ _ _ _ _ _ _ _ _ _ _ _ w
 |9,_=>exact zRL _ _ _ _ _ _ _ _ _ _ _ _ _ w
 |10,_=>exact zPM _ _ _ _ _ _ _ _ _ _ _ _ _ w
 |11,_=>exact zPL _ _ _ _ _ _ _ _ _ _ _ _ _ w
 |12,_=>exact zPK _ _ _ _ _ _ _ _ _ _ _ _ _ w
theorem faultInfo:(prog.info? 99).map (fun i=>(i.zero,i.size,i.bytes))=some (some (.agg #[.string ⟨#[]⟩,.int .i64 0]),2,24):=by kernel_rfl
def ListPost (nm:BA) (f:Nat->Bool) (w:World) (e:Ending) (w':World):Prop:=
 ∃v,e= .returned v/\w'.ownsRow w.heap.size 99 2 v (Ck.found f).length (faultRow nm (Ck.found f))/\Below w.heap.size w w'
theorem zNV (P:Nat) (nm:BA) (w:World) (cv:Value) (c:Tr.C) (fv mv:Value) (f:Nat->Bool) (hP:PlaceAt w P cv c fv mv f):
 Calls prog 86 #[.pointer (some ⟨P,0,none⟩),.string nm] w (ListPost nm f w):=by
 obtain⟨i0,hi,hz0,hz1,hz2⟩:=info_parts faultInfo;have p0:=hP.found (k:=0) (by omega);have p1:=hP.found (k:=1) (by omega);have p2:=hP.found (k:=2) (by omega);have p3:=hP.found (k:=3) (by omega);have p4:=hP.found (k:=4) (by omega);have p5:=hP.found (k:=5) (by omega);have p6:=hP.found (k:=6) (by omega);have p7:=hP.found (k:=7) (by omega);have p8:=hP.found (k:=8) (by omega);have p9:=hP.found (k:=9) (by omega);have p10:=hP.found (k:=10) (by omega);have p11:=hP.found (k:=11) (by omega);have p12:=hP.found (k:=12) (by omega);clear hP;go_in;go_wp2;clear p0 p1 p2 p3 p4 p5 p6 p7 p8 p9 p10 p11 p12
 go_loopw [5,12] (fun v s12 wr=>∃k:Nat,s12= .int .i64 k/\k<=13/\wr.ownsRow w.heap.size 99 2 v (foundTo f k).length (faultRow nm (foundTo f k))/\Below w.heap.size w wr) (fun _ s12 _=>13 -(intOf s12).toNat)
 case atStart=>exact ⟨0,rfl,by omega,by simpa [foundTo,faultRow] using World.ownsRow_nil w w.heap.size 99 2,Below.refl _ _⟩
 case round=>
  obtain⟨k,rfl,hk,hown,hbr⟩:=hrel;have hfl:=zID f k;have hsz:=hbr.size;by_cases hlt:k<13
  ·have hix:=zNA f hlt;cases hfk:f k
   ·rw [hfk] at hix;have HF:=zh (zJJ hfk);clear hfk;go_wp2;go_roundw
    case rel=>exact ⟨k+1,by go_num,by omega,by rw [HF.out];exact hown,hbr⟩
    case measure=>simp [intOf];omega
   ·rw [hfk] at hix;have HF:=zh (zIC hfk);clear hfk;go_wp2_with (at_builtin;refine wpList_append_own _ rfl _ _ 96 rfl w.heap.size 99 i0 (.agg #[.string ⟨#[]⟩,.int .i64 0]) 2 24 underlying96 hi hz0 hz1 hz2 rfl (by decide) _ _ _ rfl (hown.alloc _) ⟨wr.heap.size,0,none⟩ 1 1 [.string nm,.int .i64 k] rfl rfl (zBN (cs:= #[.string nm,.int .i64 k]) rfl (by simp)) (by simp [Value.oneCell']) (by unfold maxLen;omega) (by omega) (by simp<;>omega) ?_;intro v' wa howna hgrow hnil);go_roundw
    case rel=>exact ⟨k+1,by go_num,by omega,by rw [HF.out,zKJ,kN];exact howna,(hbr.alloc (by omega) _).grown hgrow (by simp<;>omega) fun q hq=>(hown.lt q hq).1⟩
    case measure=>simp [intOf];omega
  ·obtain rfl:k=13:=by omega
   go_wp2;go_ret;exact⟨_,rfl,hown,hbr⟩
end Go.Proofs.YtcnmfcgmnkncaaaGreatDoor
namespace Go.Proofs.YtcnmfcgmnkncaaaGreatDoor
namespace Tr
mutual
def fitS:S->Prop
 | .mk _ _ x b l=>x.length<=4611686018427387904/\fitSs b/\fitSs l
def fitSs:List S->Prop
 | []=>True
 |s::r=>fitS s/\fitSs r
end
theorem zL3:∀ {l:List S} {j:Nat} {s:S},fitSs l->l[j]? =some s->fitS s
 | [],j,s,_,h=>by simp at h
 |x::r,0,s,h,hj=>by cases hj;unfold fitSs at h;exact h.1
 |x::r,j+1,s,h,hj=>by unfold fitSs at h;exact zL3 h.2 (by simpa using hj)
theorem zPQ {s:S} (h:fitS s):s.exprs.length<=4611686018427387904/\fitSs s.body/\fitSs s.els:=by
 cases s with
 |mk k nm x b l=>unfold fitS at h;exact h
theorem zO8 (e:E) (n:Int) (h:0<=n):leftE e n<=n -1:=by
 cases e with
 |mk k o i nm a l=>
  unfold leftE
  split
  ·omega
  ·exact(zDB l (n -1) (by omega)).2
theorem zJE:∀(l:List E) (n:Int),0<=zAD l n->(l.length:Int)<=n
 | [],n,h=>by rw [zAD] at h;simpa using h
 |e::r,n,h=>by
  by_cases h0:n<0
  ·rw [zAD,kD h0] at h;omega
  ·rw [zAD,kC h0] at h;have:=zJE r _ h;have:=zO8 e n (by omega);simp only [kI];omega
mutual
theorem zVE:∀(s:S) (n:Int),0<=leftS s n->n<=1000000->fitS s
 | .mk k nm x b l,n,h,hn=>by
   unfold leftS at h
   split at h
   ·omega
   ·simp only [] at h;have a1:0<=zAD x (n -1):=by
     rcases Int.lt_or_le (zAD x (n -1)) 0 with hlt|hge
     ·rw [kC (by omega:¬0<=zAD x (n -1)),kC (by omega)] at h;omega
     ·exact hge
    rw [kD a1] at h;have a2:0<=zY b (zAD x (n -1)):=by
     rcases Int.lt_or_le (zY b (zAD x (n -1))) 0 with hlt|hge
     ·rw [kC (by omega)] at h;omega
     ·exact hge
    rw [kD a2] at h;have b1:=zJE x _ a1;have b2:=(zDB x (n -1) (by omega)).2;have b3:=(zB4 b (zAD x (n -1)) (by omega)).2;unfold fitS;exact⟨by omega,zG8 b _ a2 (by omega),zG8 l _ h (by omega)⟩
theorem zG8:∀(l:List S) (n:Int),0<=zY l n->n<=1000000->fitSs l
 | [],n,_,_=>by unfold fitSs;trivial
 |s::r,n,h,hn=>by
  by_cases h0:n<0
  ·rw [zY,kD h0] at h;omega
  ·rw [zY,kC h0] at h;have b1:=zNW s n (by omega);have a1:0<=leftS s n:=by
    rcases Int.lt_or_le (leftS s n) 0 with hlt|hge
    ·rw [zCL hlt] at h;omega
    ·exact hge
   unfold fitSs;exact⟨zVE s n a1 hn,zG8 r _ h (by omega)⟩
end
def fitM (m:M):Prop:=fitSs m.body
def fitC (c:C):Prop:=∀m∈c.methods,fitM m
def fitP (cs:List C):Prop:=∀c∈cs,fitC c
theorem zC4 (l:List BA) (n:Int) (h: -1<=n):zA4 l n<=n:=by
 unfold zA4;split<;>omega
theorem zNY (m:M) (n:Int) (h:0<=n):leftM m n<=n:=by
 unfold leftM
 split
 ·omega
 ·simp only [];have:=zC4 m.params (n -1) (by omega)
  split
  ·have:=(zB4 m.body (zA4 m.params (n -1)) (by omega)).2;omega
  ·omega
theorem zD5:∀(l:List M) (n:Int),zAV l n<=n
 | [],n=>by rw [zAV];exact Int.le_refl _
 |m::r,n=>by
  by_cases h0:n<0
  ·rw [zAV,kD h0];exact Int.le_refl _
  ·rw [zAV,kC h0];have:=zD5 r (leftM m n);have:=zNY m n (by omega);omega
theorem zN0 (c:C) (n:Int) (h:0<=n):leftC c n<=n:=by
 unfold leftC
 split
 ·omega
 ·have:=zC4 c.fields (n -1) (by omega);have:=zD5 c.methods (zA4 c.fields (n -1));omega
theorem zVF (m:M) (n:Int) (h:0<=leftM m n) (h0:0<=n) (hn:n<=1000000):fitM m:=by
 unfold leftM at h
 split at h
 ·omega
 ·simp only [] at h;have:=zC4 m.params (n -1) (by omega)
  split at h
  ·exact zG8 _ _ h (by omega)
  ·omega
theorem zOB:∀(l:List M) (n:Int),0<=zAV l n->n<=1000000->∀m∈l,fitM m
 | [],n,_,_=>by intro m hm;cases hm
 |x::r,n,h,hn=>by
  by_cases h0:n<0
  ·rw [zAV,kD h0] at h;omega
  ·rw [zAV,kC h0] at h;have a1:0<=leftM x n:=by
    have:=zD5 r (leftM x n);omega
   have:=zNY x n (by omega);intro m hm;rcases kV.1 hm with rfl|hm
   ·exact zVF m n a1 (by omega) hn
   ·exact zOB r _ h (by omega) m hm
theorem zVG (c:C) (n:Int) (h:0<=leftC c n) (h0:0<=n) (hn:n<=1000000):fitC c:=by
 unfold leftC at h
 split at h
 ·omega
 ·have:=zC4 c.fields (n -1) (by omega);exact zOB _ _ h (by omega)
theorem zH1:∀(l:List C) (n:Int),leftCs l n<=n
 | [],n=>by rw [leftCs];exact Int.le_refl _
 |m::r,n=>by
  by_cases h0:n<0
  ·rw [leftCs,kD h0];exact Int.le_refl _
  ·rw [leftCs,kC h0];have:=zH1 r (leftC m n);have:=zN0 m n (by omega);omega
theorem zOC:∀(l:List C) (n:Int),0<=leftCs l n->n<=1000000->fitP l
 | [],n,_,_=>by intro m hm;cases hm
 |x::r,n,h,hn=>by
  by_cases h0:n<0
  ·rw [leftCs,kD h0] at h;omega
  ·rw [leftCs,kC h0] at h;have a1:0<=leftC x n:=by
    have:=zH1 r (leftC x n);omega
   have:=zN0 x n (by omega);intro m hm;rcases kV.1 hm with rfl|hm
   ·exact zVG m n a1 (by omega) hn
   ·exact zOC r _ h (by omega) m hm
theorem zR1 {cs:List C} {n:Int} (h:fewP cs n=true) (hn:n<=1000000):fitP cs:=zOC cs n (of_decide_eq_true h) hn
end Tr
end Go.Proofs.YtcnmfcgmnkncaaaGreatDoor
namespace Go.Proofs.YtcnmfcgmnkncaaaGreatDoor
namespace Ck
open Tr
def clsWord:Str:=⟨#[99,108,97,115,115,32]⟩
def mthWord:Str:=⟨#[44,32,109,101,116,104,111,100,32]⟩
def clsText (c:C):Str:=clsWord++c.name
def mthText (c:C) (m:M):Str:=clsWord++c.name++mthWord++m.name
def rowsM (cs:List C) (c:C):List M->Nat->List (Str × Nat)
 | [],_=> []
 |m::r,k=>(found (faultM cs c k m)).map (fun t=>(mthText c m,t))++rowsM cs c r (k+1)
def rowsC (cs:List C):List C->Nat->List (Str × Nat)
 | [],_=> []
 |c::r,i=>(found (faultC cs i c)).map (fun t=>(clsText c,t))++rowsM cs c c.methods 0++rowsC cs r (i+1)
def rows (cs:List C):List (Str × Nat):=rowsC cs cs 0
theorem zEX (cs:List C) (i:Nat) (c:C):∀(l:List M) (k:Nat),(rowsM cs c l k).map Prod.snd=(faultsM cs i c l k).map F.line
 | [],k=>rfl
 |m::r,k=>by rw [rowsM,faultsM,List.map_append,List.map_append,zEX cs i c r,List.map_map,List.map_map];rfl
theorem zEY (cs:List C):∀(l:List C) (i:Nat),(rowsC cs l i).map Prod.snd=(faultsC cs l i).map F.line
 | [],i=>rfl
 |c::r,i=>by rw [rowsC,faultsC,List.map_append,List.map_append,List.map_append,List.map_append,zEY cs r,zEX cs i,List.map_map,List.map_map];rfl
theorem zI3 (cs:List C):(rows cs).map Prod.snd=(faults cs).map F.line:=zEY cs cs 0
theorem zI4 (cs:List C) (c:C) (m:M):∀(l:List M) (k:Nat),rowsM cs c (l++ [m]) k=rowsM cs c l k++(found (faultM cs c (k+l.length) m)).map (fun t=>(mthText c m,t))
 | [],k=>by simp [rowsM]
 |x::r,k=>by
  rw [List.cons_append,rowsM,rowsM,zI4 cs c m r,List.append_assoc,kI,show k+1+r.length=k+(r.length+1) by omega]
theorem zI5 (cs:List C) (c:C):∀(l:List C) (i:Nat),rowsC cs (l++ [c]) i=rowsC cs l i++((found (faultC cs (i+l.length) c)).map (fun t=>(clsText c,t))++rowsM cs c c.methods 0)
 | [],i=>by simp [rowsC]
 |x::r,i=>by
  rw [List.cons_append,rowsC,rowsC,zI5 cs c r,kI,show i+1+r.length=i+(r.length+1) by omega];simp only [List.append_assoc]
theorem zD7 (f:Nat->Bool):(found f).length<=13:=by
 unfold found;have:=List.length_filter_le f (List.range 13)
 simpa using this
theorem zFI (cs:List C) (c:C):∀(l:List M) (k:Nat),(rowsM cs c l k).length<=13*l.length
 | [],k=>by simp [rowsM]
 |m::r,k=>by
  rw [rowsM,kN,List.length_map,kI];have:=zFI cs c r (k+1);have:=zD7 (faultM cs c k m);omega
def cnt:List C->Nat
 | []=>0
 |c::r=>1+c.methods.length+cnt r
theorem zFJ (cs:List C):∀(l:List C) (i:Nat),(rowsC cs l i).length<=13*cnt l
 | [],i=>by simp [rowsC]
 |c::r,i=>by
  rw [rowsC,kN,kN,List.length_map,cnt];have:=zFJ cs r (i+1);have:=zFI cs c c.methods 0;have:=zD7 (faultC cs i c);omega
theorem zKQ:∀(l:List C) (k:Nat),cnt (l.take k)<=cnt l
 | [],k=>by simp
 |c::r,0=>by simp [cnt]
 |c::r,k+1=>by rw [List.take_succ_cons,cnt,cnt];have:=zKQ r k;omega
structure SmallM (m:M):Prop where
 name:m.name.size<=40
 params:m.params.length<=1000000
 lets:m.params.length+lets m.body<=1000000
structure SmallC (c:C):Prop where
 name:c.name.size<=40
 fields:c.fields.length<=1000000
 mths:c.methods.length<=1000000
 all:∀m∈c.methods,SmallM m
structure Small (cs:List C):Prop where
 all:∀c∈cs,SmallC c
 cnt:cnt cs<=1000000
mutual
theorem zTQ:∀(s:S) (n:Int),0<=leftS s n->0<=n->(letsS s:Int)<=n -leftS s n
 | .mk k nm x b l,n,h,hn=>by
   unfold leftS at h |-
   split at h
   ·omega
   ·rename_i h40;rw [kC h40];simp only [] at h |-;have a1:0<=zAD x (n -1):=by
     rcases Int.lt_or_le (zAD x (n -1)) 0 with hlt|hge
     ·rw [kC (by omega:¬0<=zAD x (n -1)),kC (by omega)] at h;omega
     ·exact hge
    rw [kD a1] at h |-;have a2:0<=zY b (zAD x (n -1)):=by
     rcases Int.lt_or_le (zY b (zAD x (n -1))) 0 with hlt|hge
     ·rw [kC (by omega)] at h;omega
     ·exact hge
    rw [kD a2] at h |-;have b1:=(zDB x (n -1) (by omega)).2;have b2:=zKA b _ a2 a1;have b3:=zKA l _ h a2;rw [letsS]
    split<;>omega
theorem zKA:∀(l:List S) (n:Int),0<=zY l n->0<=n->(lets l:Int)<=n -zY l n
 | [],n,_,_=>by rw [lets,zY];simp
 |s::r,n,h,hn=>by
  rw [zY,kC (by omega)] at h |-;have a1:0<=leftS s n:=by
   rcases Int.lt_or_le (leftS s n) 0 with hlt|hge
   ·rw [zCL hlt] at h;omega
   ·exact hge
  have b1:=zTQ s n a1 hn;have b2:=zKA r _ h a1;rw [lets];omega
end
theorem zI1 (l:List BA) (n:Int) (h:0<=zA4 l n):(l.length:Int)<=n -zA4 l n:=by
 unfold zA4 at h |-
 split at h
 ·omega
 ·rename_i hh;rw [kC hh];omega
theorem zQH (m:M) (n:Int) (h:0<=leftM m n) (h0:0<=n) (hn:n<=1000000):SmallM m/\leftM m n<=n -1:=by
 unfold leftM at h |-
 split at h
 ·omega
 ·rename_i h40;rw [kC h40];simp only [] at h |-;have hs:=zC4 m.params (n -1) (by omega);have a1:0<=zA4 m.params (n -1):=by
   rcases Int.lt_or_le (zA4 m.params (n -1)) 0 with hlt|hge
   ·rw [kC (by omega)] at h;omega
   ·exact hge
  rw [kD a1] at h |-;have b1:=zI1 m.params (n -1) a1;have b2:=zKA m.body _ h a1;exact⟨⟨by omega,by omega,by omega⟩,by have:=(zB4 m.body (zA4 m.params (n -1)) (by omega)).2;omega⟩
theorem zIZ:∀(l:List M) (n:Int),0<=zAV l n->n<=1000000->(∀m∈l,SmallM m)/\(l.length:Int)<=n -zAV l n
 | [],n,_,_=>⟨fun m hm=>absurd hm (by simp),by rw [zAV];simp⟩
 |x::r,n,h,hn=>by
  by_cases h0:n<0
  ·rw [zAV,kD h0] at h;omega
  ·rw [zAV,kC h0] at h |-;have a1:0<=leftM x n:=by
    have:=zD5 r (leftM x n);omega
   obtain⟨s1,s2⟩:=zQH x n a1 (by omega) hn;obtain⟨s3,s4⟩:=zIZ r _ h (by omega);refine⟨fun m hm=>?_,by rw [kI];omega⟩;rcases kV.1 hm with rfl|hm
   ·exact s1
   ·exact s3 m hm
theorem zQI (c:C) (n:Int) (h:0<=leftC c n) (h0:0<=n) (hn:n<=1000000):SmallC c/\(c.methods.length:Int)+1<=n -leftC c n:=by
 unfold leftC at h |-
 split at h
 ·omega
 ·rename_i h40;rw [kC h40];have hs:=zC4 c.fields (n -1) (by omega);have a1:0<=zA4 c.fields (n -1):=by
   have:=zD5 c.methods (zA4 c.fields (n -1));omega
  have b1:=zI1 c.fields (n -1) a1;obtain⟨s3,s4⟩:=zIZ c.methods _ h (by omega);exact⟨⟨by omega,by omega,by omega,s3⟩,by omega⟩
theorem zI0:∀(l:List C) (n:Int),0<=leftCs l n->n<=1000000->(∀c∈l,SmallC c)/\(cnt l:Int)<=n -leftCs l n
 | [],n,_,_=>⟨fun m hm=>absurd hm (by simp),by rw [leftCs,cnt];simp⟩
 |x::r,n,h,hn=>by
  by_cases h0:n<0
  ·rw [leftCs,kD h0] at h;omega
  ·rw [leftCs,kC h0] at h |-;have a1:0<=leftC x n:=by
    have:=zH1 r (leftC x n);omega
   obtain⟨s1,s2⟩:=zQI x n a1 (by omega) hn;obtain⟨s3,s4⟩:=zI0 r _ h (by omega);refine⟨fun m hm=>?_,by rw [cnt];omega⟩;rcases kV.1 hm with rfl|hm
   ·exact s1
   ·exact s3 m hm
theorem zNN {cs:List C} {n:Int} (h:fewP cs n=true) (hn:n<=1000000):Small cs:=by
 have h0:0<=leftCs cs n:=of_decide_eq_true h;obtain⟨s1,s2⟩:=zI0 cs n h0 hn;exact⟨s1,by omega⟩
end Ck
end Go.Proofs.YtcnmfcgmnkncaaaGreatDoor
