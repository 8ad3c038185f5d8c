/-
  CkRefStmts, CkRefState.
-/
import Derived.Test.YtcnmfcgmnkncaaaGreatDoorX37
set_option maxRecDepth 100000
set_option maxHeartbeats 40000000
open Go.Proofs.Tryz
namespace Go.Proofs.YtcnmfcgmnkncaaaGreatDoor
section
open Go.RowKit Go.Maps
def strC (s:BA):List Value:= [.string s]
theorem zS3 (s:BA):(strC s).length=1:=rfl
theorem zL2 (l:List BA):flatV strC l=strCellsB l:=by
 induction l with
 |nil=>rfl
 |cons x r ih=>rw [flatV_cons,ih];rfl
theorem zS2 (l:List BA):∀a∈l,∀u∈strC a,u.oneCell'=true:=by
 intro a _ u hu;simp only [strC,kV,List.not_mem_nil,or_false] at hu;subst hu;rfl
theorem SlStr.src {w:World} {v:Value} {l:List BA} (h:SlStr w v l):SrcAt w strC v l:=by
 obtain⟨p,c,rfl,hl,hn,hx⟩:=h;cases l with
 |nil=>exact .inl ⟨rfl,p,c,rfl⟩
 |cons x r=>
  obtain⟨_,b,o,rfl,_⟩:=hx 0 x rfl;refine .inr ⟨b,o,c,rfl,fun j u hj=>?_⟩;rw [zL2] at hj;unfold strCellsB at hj;rw [List.getElem?_map,Option.map_eq_some_iff] at hj;obtain⟨s,hs,rfl⟩:=hj;obtain⟨_,b2,o2,e,_,hc⟩:=hx j s hs;cases e;exact hc
structure RHd (w:World) (P FB:Nat) (cv:Value) (c:Tr.C) (fv mv hv:Value) (vars:List BA) (f:Nat->Bool) (W:World):Prop where
 find:FindAt W P FB cv c fv mv f
 own:W.ownsRow w.heap.size 9 1 hv vars.length (strCellsB vars)
 sz:∀s∈vars,s.size<=maxLen
 grown:w.grownBy W (some FB)
 lP:P<w.heap.size
 lF:FB<w.heap.size
structure RSS (w:World) (P FB bx:Nat) (cv:Value) (c:Tr.C) (fv mv hv:Value) (vars:List BA) (cells:Array Value) (f:Nat->Bool) (W:World):Prop where
 hd:RHd w P FB cv c fv mv hv vars f W
 blk:W.heap[bx]? =some (.cells cells 71 (0,0))
section
variable {w:World} {P FB bx:Nat} {cv:Value} {c:Tr.C} {fv mv hv:Value} {vars:List BA} {cells:Array Value} {f:Nat->Bool} {W W':World}
theorem RHd.vs (h:RHd w P FB cv c fv mv hv vars f W):SlStr W hv vars:=slStr_own h.own h.sz
theorem RHd.next (h:RHd w P FB cv c fv mv hv vars f W) {g:Nat->Bool} (hp:FindAt W' P FB cv c fv mv g) (hg:W.grownBy W' (some FB)):RHd w P FB cv c fv mv hv vars g W':=
 ⟨hp,h.own.kept hg (by
  cases hq:hv.ownBlock with
  |none=>exact .inl rfl
  |some q=>right;intro e;have:=(own_ge h.own hq).1;have:=h.lF;cases e;omega),h.sz,zCP h.grown hg,h.lP,h.lF⟩
theorem RHd.keep (h:RHd w P FB cv c fv mv hv vars f W) (hb:Below W.heap.size W W'):RHd w P FB cv c fv mv hv vars f W':=h.next (h.find.keep hb) (zL hb)
theorem RHd.congr (h:RHd w P FB cv c fv mv hv vars f W) {g:Nat->Bool} (he:∀t,f t=g t):RHd w P FB cv c fv mv hv vars g W:=⟨h.find.congr he,h.own,h.sz,h.grown,h.lP,h.lF⟩
theorem RHd.app (h:RHd w P FB cv c fv mv hv vars f W) {nm:BA} (hn:nm.size<=maxLen) {v':Value} {m:Nat} (hm:m=vars.length+1) (ho:W'.ownsRow w.heap.size 9 1 v' m (strCellsB vars++ [.string nm])) (hg:W.grownBy W' hv.ownBlock):RHd w P FB cv c fv mv v' (vars++ [nm]) f W':=by
 have hge:∀k,k<w.heap.size->some k≠hv.ownBlock:=fun k hk e=>by have:=(own_ge h.own e.symm).1;omega
 refine⟨⟨(hg.block P (lt_of_block h.find.fin) (hge P h.lP)).trans h.find.fin,(hg.block FB (lt_of_block h.find.fnd) (hge FB h.lF)).trans h.find.fnd⟩,?_,fun s hs=>?_,⟨hg.os.trans h.grown.os,hg.tape.trans h.grown.tape,hg.output.trans h.grown.output,kG h.grown.size hg.size,fun k hk hkP=>?_⟩,h.lP,h.lF⟩
 ·subst hm;rw [kN];unfold strCellsB at ho |-;rw [List.map_append];exact ho
 ·rcases kU.1 hs with hs|hs
  ·exact h.sz s hs
  ·obtain rfl:=kT.1 hs;exact hn
 ·rw [hg.block k (kP hk h.grown.size) (hge k hk),h.grown.block k hk hkP]
theorem RHd.box (h:RHd w P FB cv c fv mv hv vars f W) (cells:Array Value):RSS w P FB W.heap.size cv c fv mv hv vars cells f (W.alloc (.cells cells 71)):=
 ⟨h.keep (zD _ _),(MapKept.heap_alloc W _).1⟩
theorem RSS.neF (h:RSS w P FB bx cv c fv mv hv vars cells f W):bx≠FB:=by
 rintro rfl;have:=h.blk.symm.trans h.hd.find.fnd;simp only [Option.some.injEq,Obj.cells.injEq] at this;exact absurd this.2.1 (by decide)
theorem RSS.next (h:RSS w P FB bx cv c fv mv hv vars cells f W) {g:Nat->Bool} (hp:FindAt W' P FB cv c fv mv g) (hg:W.grownBy W' (some FB)):RSS w P FB bx cv c fv mv hv vars cells g W':=
 ⟨h.hd.next hp hg,(hg.block bx (lt_of_block h.blk) (fun e=>h.neF (Option.some.inj e))).trans h.blk⟩
theorem RSS.keep (h:RSS w P FB bx cv c fv mv hv vars cells f W) (hb:Below W.heap.size W W'):RSS w P FB bx cv c fv mv hv vars cells f W':=h.next (h.hd.find.keep hb) (zL hb)
theorem RSS.drew (h:RSS w P FB bx cv c fv mv hv vars cells f W):RSS w P FB bx cv c fv mv hv vars cells f W.drew:=h.keep (Below.refl _ _).drew
theorem RSS.drewN (h:RSS w P FB bx cv c fv mv hv vars cells f W) (q:Nat):RSS w P FB bx cv c fv mv hv vars cells f (W.drewN q):=h.keep (quietB (Below.refl _ _))
theorem RSS.congr (h:RSS w P FB bx cv c fv mv hv vars cells f W) {g:Nat->Bool} (he:∀t,f t=g t):RSS w P FB bx cv c fv mv hv vars cells g W:=⟨h.hd.congr he,h.blk⟩
theorem RSS.set (h:RSS w P FB bx cv c fv mv hv vars cells f W) {k:Nat} (hk:k<13):RSS w P FB bx cv c fv mv hv vars cells (fun t=>f t||(t == k)) (W.setCell ⟨FB,k,none⟩ (.bool true)):=h.next (h.hd.find.set hk) (zB6 _ _ _ _)
theorem RSS.app (h:RSS w P FB bx cv c fv mv hv vars cells f W) {nm:BA} (hn:nm.size<=maxLen) {v':Value} {m:Nat} (hm:m=vars.length+1) (ho:W'.ownsRow w.heap.size 9 1 v' m (strCellsB vars++ [.string nm])) (hg:W.grownBy W' hv.ownBlock):RSS w P FB bx cv c fv mv v' (vars++ [nm]) cells f W':=by
 refine⟨h.hd.app hn hm ho hg,(hg.block bx (lt_of_block h.blk) (fun e=>?_)).trans h.blk⟩;obtain⟨_,cur,hc⟩:=own_ge h.hd.own e.symm;have:=h.blk.symm.trans hc;simp only [Option.some.injEq,Obj.cells.injEq] at this;exact absurd this.2.1 (by decide)
theorem RSS.box (h:RSS w P FB bx cv c fv mv hv vars cells f W) (j:Nat) (u:Value) (hj:cells[j]? =some u):W.cell? ⟨bx,j,none⟩=some u:=zHC h.blk hj
theorem RSS.fcell (h:RSS w P FB bx cv c fv mv hv vars cells f W) {k:Nat} (hk:k<13):W.cell? ⟨FB,k,none⟩=some (.bool (f k)):=zEI h.hd.find.fnd hk
theorem RSS.free (h:RSS w P FB bx cv c fv mv hv vars cells f W) (k:Nat):W.frozen? ⟨FB,k,none⟩=false:=zGD h.hd.find.fnd k
end
theorem zHN {a0 a1 a2 a3 a4:Value} {q0 q1 q2 q3 q4:Addr} {w:World} {P FB bx:Nat} {cv:Value} {c:Tr.C} {fv mv hv:Value} {vars:List BA} {cells:Array Value} {f:Nat->Bool} {W W':World} (h:W.cell? q0=some a0/\W.cell? q1=some a1/\W.cell? q2=some a2/\W.cell? q3=some a3/\W.cell? q4=some a4/\Hid (RSS w P FB bx cv c fv mv hv vars cells f W)) (hb:Below W.heap.size W W'):
 W'.cell? q0=some a0/\W'.cell? q1=some a1/\W'.cell? q2=some a2/\W'.cell? q3=some a3/\W'.cell? q4=some a4/\Hid (RSS w P FB bx cv c fv mv hv vars cells f W'):=
 ⟨(zL (r:=none) hb).cell h.1 (by simp),(zL (r:=none) hb).cell h.2.1 (by simp),(zL (r:=none) hb).cell h.2.2.1 (by simp),(zL (r:=none) hb).cell h.2.2.2.1 (by simp),(zL (r:=none) hb).cell h.2.2.2.2.1 (by simp),h.2.2.2.2.2.keep hb⟩
theorem zMV {p0 p1 p2 p3 p4:Prop} {w:World} {P FB bx:Nat} {cv:Value} {c:Tr.C} {fv mv hv:Value} {vars:List BA} {cells:Array Value} {f:Nat->Bool} {W:World} (h:p0/\p1/\p2/\p3/\p4/\Hid (RSS w P FB bx cv c fv mv hv vars cells f W)):RSS w P FB bx cv c fv mv hv vars cells f W:=h.2.2.2.2.2.out
theorem zF4 {p0 p1 p2 p3 p4:Prop} {w0 w:World} {P FB bx:Nat} {cv:Value} {c:Tr.C} {fv mv hv:Value} {vars:List BA} {cells:Array Value} {f:Nat->Bool} {W:World} (hb:Below w0.heap.size w0 w) (hP:w0.heap.size<=FB) (h:p0/\p1/\p2/\p3/\p4/\Hid (RSS w P FB bx cv c fv mv hv vars cells f W)):Below w0.heap.size w0 W:=zO hb h.2.2.2.2.2.hd.grown hP
theorem zQT {w:World} {P FB:Nat} {cv:Value} {c:Tr.C} {fv mv hv:Value} {vars:List BA} {f:Nat->Bool} {W':World} {t:TypeId} (h:FindAt (w.alloc (.cells #[] t)) P FB cv c fv mv f) (h0:FindAt w P FB cv c fv mv f)
 (ho:W'.ownsRow w.heap.size 9 1 hv ([]++vars).length (flatV strC ([]++vars))) (hg:(w.alloc (.cells #[] t)).grownBy W' (Value.ownBlock (.slice (some ⟨w.heap.size,0,none⟩) 0 0))) (hs:∀s∈vars,s.size<=maxLen):RHd w P FB cv c fv mv hv vars f W':=by
 have lP:=lt_of_block h0.fin;have lF:=lt_of_block h0.fnd;have hsz:(w.alloc (.cells #[] t)).heap.size=w.heap.size+1:=World.size_alloc _ _;have hne:∀k,k<w.heap.size->some k≠Value.ownBlock (.slice (some ⟨w.heap.size,0,none⟩) 0 0):=fun k hk e=>by
  have:k=w.heap.size:=Option.some.inj e;omega
 have hb:=zD w (.cells #[] t);rw [List.nil_append,zL2] at ho;refine⟨⟨(hg.block P (by omega) (hne P lP)).trans h.fin,(hg.block FB (by omega) (hne FB lF)).trans h.fnd⟩,ho,hs,⟨hg.os.trans hb.os,hg.tape.trans hb.tape,hg.output.trans hb.output,kG hb.size hg.size,fun k hk _=>?_⟩,lP,lF⟩;rw [hg.block k (by omega) (hne k hk),hb.block k hk]
def RStmtsOk (w0:World) (cs:List Tr.C) (cv:Value) (c:Tr.C) (fv mv:Value) (P FB d:Nat):Prop:=
 ∀(l:List Tr.S) (v:Value) (w:World) (f:Nat->Bool) (vv:Value) (vars:List BA),Tr.S.deep.deeps l<=d->Tr.zV l=true->SlS w0 v l->Below w0.heap.size w0 w->FindAt w P FB cv c fv mv f->SlStr w vv vars->vars.length+Ck.lets l<=1000000->
  Calls prog 98 #[.pointer (some ⟨P,0,none⟩),v,vv] w fun r w'=>r= .returned (.tuple #[])/\FindAt w' P FB cv c fv mv (fun t=>f t||Ck.zA2 cs c l vars t)/\w.grownBy w' (some FB)
theorem zJV (k:Int) (nm:BA) (v:List BA):(Ck.addVar k nm v).length=v.length+(if k=0 then 1 else 0):=by
 unfold Ck.addVar
 split<;>simp
theorem zIS:∀(l:List Tr.S) (v:List BA),(varsOf l v).length<=v.length+Ck.lets l
 | [],v=>Nat.le_add_right _ _
 |s::r,v=>by
  rw [varsOf,Ck.lets];have h1:=zIS r (Ck.addVar s.kind s.name v);rw [zJV] at h1;obtain⟨k,nm,x,b,e⟩:=s;rw [Ck.letsS];have h2:(varsOf r (Ck.addVar k (Tr.S.mk k nm x b e).name v)).length<=v.length+(if k=0 then 1 else 0)+Ck.lets r:=h1
  show(varsOf r (Ck.addVar k (Tr.S.mk k nm x b e).name v)).length<=_
  by_cases h0:k=0
  ·rw [kD h0] at h2 |-;omega
  ·rw [kC h0] at h2 |-;omega
theorem zOU (w0:World) (cs:List Tr.C) (cv:Value) (hcs:SlC w0 cv cs) (c:Tr.C) (fv mv:Value) (hfv:SlStr w0 fv c.fields) (hmv:SlM w0 mv c.methods) (P FB:Nat) (hP0:w0.heap.size<=FB):∀(d:Nat),RStmtsOk w0 cs cv c fv mv P FB d:=by
 intro d
 induction d using Nat.strongRecOn with
 |ind d ih=>
  intro l v w f vv vars hd hvd hS hb hP hB hn;obtain⟨i0,hi0,hz0,hz1,hz2⟩:=info_parts strInfo2;have KE:=zh (fun d=>zR5 w0 cs cv hcs c fv mv hfv P FB hP0 d);obtain⟨p,c5,rfl,_⟩:=hS.form;have hll:=hS.len;unfold maxLen at hll;have hmcs:=hcs.form;obtain⟨pv,cpv,rfl⟩:=hcs.form;obtain⟨pf,cf,rfl⟩:=hfv.form;obtain⟨pm,cm,rfl⟩:=hmv.form;have hml:=hmv.len;unfold maxLen at hml;obtain⟨N,hN⟩:∃N,l.length=N:=⟨_,rfl⟩;obtain⟨CN,hCN⟩:∃N,cs.length=N:=⟨_,rfl⟩;obtain⟨FN,hFN⟩:∃N,c.fields.length=N:=⟨_,rfl⟩;obtain⟨MN,hMN⟩:∃N,c.methods.length=N:=⟨_,rfl⟩;have HMN:=zh hMN;rw [hN] at hS hll;rw [hMN] at hml;rw [hCN,hFN,hMN] at ih hP KE;rw [hFN] at hfv;rw [hMN] at hmv;have HS:=zh hS;have HN:=zh hN;have HD:=zh hd;have HIH:=zh ih;have HVS:=zh hvd;have HBW:=zh hb;have HFV:=zh hfv;have HMV:=zh hmv;have HP:=zh hP;have HNL:=zh hn;rw [hN];have KC:Hid (∀(W:World) (nm:BA),Below w0.heap.size w0 W->Calls prog 139 #[(.slice pf FN cf),.string nm] W fun e w'=>e= .returned (.bool (Ck.hasS c.fields nm))/\w'=W):=fun W nm hb=>zF9 nm _ _ W (HFV.keep hb)
  have KM:Hid (∀(W:World) (nm:BA),Below w0.heap.size w0 W->Calls prog 97 #[.agg #[.string c.name,.bool c.actor,(.slice pf FN cf),(.slice pm MN cm)],.string nm] W fun e w'=>e= .returned (.tuple #[.int .i64 ((Ck.zAM c.methods nm).getD 0:Nat),.bool (Ck.zAM c.methods nm).isSome])/\Below W.heap.size W w'):=fun W nm hb=>by have:=zFK nm c _ _ W (HFV.keep hb) (HMV.keep hb);unfold classV at this;exact this
  rw [hCN,hFN,hMN];obtain⟨pvv,cvv,rfl⟩:=hB.form;obtain⟨VN,hVN⟩:∃N,vars.length=N:=⟨_,rfl⟩;have HVN:=zh hVN;have hbe:=zD w (.cells #[] 9);have HSRC:=zh (hB.src.keep hbe);have HSZ0:Hid (∀s∈vars,s.size<=maxLen):=by
   intro s hs;obtain⟨j,hj,rfl⟩:=List.getElem_of_mem hs;obtain⟨_,_,_,_,_,hx⟩:=hB;exact(hx j _ (kB hj)).1
  have hvl:vars.length<=1000000:=(by omega);have HFE:=zh (hP.keep hbe);rw [hVN] at HSRC hvl |-;clear hS hcs hfv hmv hN hd ih hvd hb hCN hFN hP hB hn hMN hVN hbe hmcs;go_in;go_wp2_with (at_builtin;refine wpList_append_src strC 1 zS3 rfl _ _ 49 rfl w.heap.size 9 i0 (.string ⟨#[]⟩) 16 underlying49 hi0 hz0 hz1 hz2 rfl (by decide) _ _ [] vars rfl rfl (own_empty w _ 1) HSRC (zS2 _) (by rw [HVN.out];unfold maxLen;simp;omega) (by rw [HVN.out];simp;omega) (by simp) ?_;intro v7 w7 ho7 hg7;have HH0:Hid (RHd w P FB (.slice pv CN cpv) c (.slice pf FN cf) (.slice pm MN cm) v7 vars f w7):=zh (zQT HFE HP ho7 hg7 HSZ0);clear ho7 hg7)
  go_loopg [6,7] N (fun g s6 s7 wr=>∃j:Nat,s7= .int .i64 j/\j<=N/\g=N -j/\Hid (RHd w P FB (.slice pv CN cpv) c (.slice pf FN cf) (.slice pm MN cm) s6 (varsOf (l.take j) vars) (fun t=>f t||Ck.zA2 cs c (l.take j) vars t) wr))
  case atStart=>exact ⟨0,rfl,kO _,rfl,zh (HH0.congr (fun t=>by rw [List.take_zero,Ck.zA2,Bool.or_false]))⟩
  case round=>
   obtain⟨j,rfl,hj,rfl,HST⟩:=hrel;clear HH0 HFE HSRC HSZ0;by_cases hlt:j<N
   ·obtain⟨x,hx⟩:∃x,l[j]? =some x:=⟨_,kB (by rw [HN.out];exact hlt)⟩;have HBR:=zh (zO HBW HST.grown hP0);obtain⟨b,oo,vx,vy,vz,rfl,hblt,hc,hbd,hsx,hsy,hsz⟩:=HS.get hx;have hnext:=zFR hx;have htk:=zCW l (j+1);have hnl:=HNL.out;have hvl2:=zIS (l.take j) vars;obtain⟨dp1,dp2,dp3⟩:=Tr.S.deep_in HD hx;have hvx:=zHI HVS hx;have hsnoc:Hid (∀t,Ck.zA2 cs c (l.take (j+1)) vars t=(Ck.zA2 cs c (l.take j) vars t||Ck.faultS cs c x (varsOf (l.take j) vars) t)):=fun t=>by rw [zA3 hx,zGQ]
    have hvarn:Hid (varsOf (l.take (j+1)) vars=Ck.addVar x.kind x.name (varsOf (l.take j) vars)):=by show _=_;rw [zA3 hx,zHG]
    obtain⟨k,nm,xs,bd,el⟩:=x;simp only [Tr.S.kind,Tr.S.name,Tr.S.exprs,Tr.S.body,Tr.S.els] at hbd hsx hsy hsz hnext dp2 dp3 hvarn;have hnm:nm.size<=maxLen:=hbd.name;obtain⟨vxe,vok,vbd,vel⟩:=zGJ hvx;obtain⟨x0,x1,x2,x3,x4⟩:=hc.keep HBR;simp only [Tr.S.kind,Tr.S.name] at x0 x1;obtain⟨px,cx,rfl,_⟩:=hsx.form;obtain⟨py,cy,rfl,_⟩:=hsy.form;obtain⟨pz,cz,rfl,_⟩:=hsz.form;have hxl:=hsx.len;unfold maxLen at hxl;obtain⟨XN,hXN⟩:∃N,xs.length=N:=⟨_,rfl⟩;obtain⟨YN,hYN⟩:∃N,bd.length=N:=⟨_,rfl⟩;obtain⟨ZN,hZN⟩:∃N,el.length=N:=⟨_,rfl⟩;rw [hXN] at hsx x2 hxl;rw [hYN] at hsy x3;rw [hZN] at hsz x4;rw [hXN,hYN,hZN] at vok;obtain⟨vs,hvs⟩:∃q,varsOf (l.take j) vars=q:=⟨_,rfl⟩;obtain⟨fj,hfj⟩:∃q:Nat->Bool,(fun t=>f t||Ck.zA2 cs c (l.take j) vars t)=q:=⟨_,rfl⟩;rw [hvs] at hvl2;have hnext:Ck.lets (l.take (j+1))=Ck.lets (l.take j)+((if k=0 then 1 else 0)+Ck.lets bd+Ck.lets el):=hnext;have hbd1:vs.length+((if k=0 then 1 else 0)+Ck.lets bd+Ck.lets el)<=1000000:=(by omega);have HBD:=zh hbd1;have hvsl:vs.length<=1000000:=(by omega);have HFJ:=zh hfj;rw [hvs] at hsnoc hvarn;rw [hvs,hfj] at HST;obtain⟨ph,ch,rfl⟩:=own_form HST.own;have HX:=zh hx;have HXN:=zh hXN;have HSX:=zh hsx;have HSY:=zh hsy;have HSZ:=zh hsz;have HVX:=zh vxe;have HOK:=zh vok;have HVB:=zh vbd;have HVE:=zh vel;obtain⟨VL,hVL⟩:∃q,vs.length=q:=⟨_,rfl⟩;rw [hVL] at HST hvsl |-;have HVL:=zh hVL;have HE0:=zh (HST.box #[.int .i64 k,.string nm,.slice px XN cx,.slice py YN cy,.slice pz ZN cz]);obtain⟨w2,hw2⟩:∃w2,w2=wr.alloc (.cells #[.int .i64 k,.string nm,.slice px XN cx,.slice py YN cy,.slice pz ZN cz] 71):=⟨_,rfl⟩;obtain⟨bx,hbx⟩:∃q,wr.heap.size=q:=⟨_,rfl⟩;rw [<-hw2,hbx] at HE0;have HW2:=zh hw2;have HBX:=zh hbx;have hk1:=hbd.kind;have hk1':Tr.I64 k:=hk1;have b1j:(0:Int)<=(j:Int):=(by omega);have b3j:(j:Int)<(N:Int):=(by omega);clear hx hc hbd hsx hsy hsz hnext htk hnl hvx vxe vok vbd vel hXN hYN hZN hvs hfj hbd1 hw2 hk1 hbx hvl2 hVL;go_upto_region 5 with fail;rw [<-HW2.out,HBX.out];clear x0 x1 x2 x3 x4;go_wp2
    go_loopg [9] XN (fun g s9 wq=>∃i:Nat,s9= .int .i64 i/\i<=XN/\g=XN -i/\Hid (RSS w P FB bx (.slice pv CN cpv) c (.slice pf FN cf) (.slice pm MN cm) (.slice ph VL ch) vs #[.int .i64 k,.string nm,.slice px XN cx,.slice py YN cy,.slice pz ZN cz] (fun t=>fj t||Ck.zAA cs c.fields vs (xs.take i) t) wq))
    case atStart=>exact ⟨0,rfl,kO _,rfl,zh (HE0.congr (fun t=>by rw [List.take_zero,Ck.zAA,Bool.or_false]))⟩
    case round=>
     obtain⟨i,rfl,hi,rfl,HQ⟩:=hrel;clear HE0 HST HBR HW2;have b2:=HQ.box 2 _ rfl;by_cases hil:i<XN
     ·obtain⟨y,hy⟩:∃y,xs[i]? =some y:=⟨_,kB (by rw [HXN.out];exact hil)⟩;have HBQ:=zh (zO HBW HQ.hd.grown hP0);obtain⟨b2',o2',aa,rfl,_,hcy,hbdy,hsl⟩:=HSX.get hy;obtain⟨y0,y1,y2,y3,y4,y5⟩:=hcy.keep HBQ;obtain⟨pa,ca,rfl,_⟩:=hsl.form;obtain⟨AN,hAN⟩:∃N,y.args.length=N:=⟨_,rfl⟩;rw [hAN] at hsl y5;have hcall:=KE _ y (.slice pa AN ca) _ _ (.slice ph VL ch) vs (kL _) (zDL HVX hy) hbdy hsl HBQ HQ.hd.find HQ.hd.vs;unfold zK at hcall;have HY:=zh hy;have HCALL:=zh hcall;have b3i:(i:Int)<(XN:Int):=(by omega);clear hy hbdy hsl hcy hAN hcall;go_wp2_with fail;refine HCALL.mono ?_;rintro e w3 ⟨rfl,hP2,hg2⟩;have HN2:=zh (HQ.next hP2 hg2);clear hP2 hg2;go_wp2;go_roundg (XN -(i+1))
      case measure=>omega
      case rel=>exact ⟨i+1,by go_num,by omega,rfl,zh (HN2.congr (fun t=>by rw [zA3 HY.out,zCY,Bool.or_assoc]))⟩
     ·have hfull:xs.take i=xs:=kR (by rw [HXN.out];omega);rw [hfull] at HQ;obtain rfl:i=XN:=by omega
      obtain⟨F1,hF1⟩:∃q:Nat->Bool,(fun t=>fj t||Ck.zAA cs c.fields vs xs t)=q:=⟨_,rfl⟩;rw [hF1] at HQ;have HF1:=zh hF1;clear hfull hF1;have b0:=HQ.box 0 _ rfl;have b1:=HQ.box 1 _ rfl;have HBL:=zh (zO HBW HQ.hd.grown hP0)
      go_upto_block 4 with fail
      go_cut [6,10,11] (fun s6 _ _ wx=>∃hv:Value,s6=hv/\Hid (RSS w P FB bx (.slice pv CN cpv) c (.slice pf FN cf) (.slice pm MN cm) hv (Ck.addVar k nm vs) #[.int .i64 k,.string nm,.slice px i cx,.slice py YN cy,.slice pz ZN cz] (fun t=>F1 t||Ck.ownS c vs k nm xs t) wx))
      case first=>
       by_cases hk0:k=0
       ·subst hk0;clear hk1';have hlk:=zh (zF9 nm _ _ _ HQ.hd.vs);cases hvh:Ck.hasS vs nm
        ·skip;rw [hvh] at hlk;have HV:=zh hvh;clear hvh;go_wp2_with fail;refine hlk.mono ?_;rintro e w4 ⟨rfl,rfl⟩;have HL1:=HQ;have e1:=b1;obtain⟨WX,hWX⟩:∃q,q=w4:=⟨_,rfl⟩;rw [<-hWX] at HL1 e1 |-;clear hWX;clear b0 b1 b2;go_wp2_with (at_builtin;refine wpList_append_own _ rfl _ _ 49 rfl w.heap.size 9 i0 (.string ⟨#[]⟩) 1 16 underlying49 hi0 hz0 hz1 hz2 rfl (by decide) _ _ _ rfl (HL1.hd.own.alloc _) ⟨WX.heap.size,0,none⟩ 1 1 [.string nm] rfl rfl (zBN (cs:= #[.string nm]) rfl (by simp)) (by simp [Value.oneCell']) (by rw [HVL.out];unfold maxLen;omega) (by rw [HVL.out];omega) (by have:=HL1.hd.grown.size;simp<;>omega) ?_;intro v7 w7 ho7 hg7 _;have HL3:=zh ((HL1.keep (zD WX (.cells #[.string nm] 9))).app hnm rfl ho7 hg7));go_meet;exact⟨_,rfl,by have:=HL3.out;exact zh (this.congr (fun t=>by unfold Ck.ownS;rw [kD rfl,HV.out];simp))⟩
        ·skip;rw [hvh] at hlk;have HV:=zh hvh;clear hvh;go_wp2_with fail;refine hlk.mono ?_;rintro e w4 ⟨rfl,rfl⟩;have q5:=HQ.hd.find.cell (j:=5) (u:= .slice (some ⟨FB,0,none⟩) 13 13) rfl;have f6:=HQ.fcell (k:=6) (by omega);have g6:=HQ.free 6;have HL0:=zh (HQ.set (k:=6) (by omega));have e1:=HL0.box 1 _ rfl;have HL1:=HL0;obtain⟨WX,hWX⟩:∃q,q=w4.setCell ⟨FB,6,none⟩ (.bool true):=⟨_,rfl⟩;rw [<-hWX] at HL1 e1;have HWX:=zh hWX;clear hWX;go_upto_region 13 with fail;rw [<-HWX.out];clear b0 b1 b2 q5 f6 g6;go_wp2_with (at_builtin;refine wpList_append_own _ rfl _ _ 49 rfl w.heap.size 9 i0 (.string ⟨#[]⟩) 1 16 underlying49 hi0 hz0 hz1 hz2 rfl (by decide) _ _ _ rfl (HL1.hd.own.alloc _) ⟨WX.heap.size,0,none⟩ 1 1 [.string nm] rfl rfl (zBN (cs:= #[.string nm]) rfl (by simp)) (by simp [Value.oneCell']) (by rw [HVL.out];unfold maxLen;omega) (by rw [HVL.out];omega) (by have:=HL1.hd.grown.size;simp<;>omega) ?_;intro v7 w7 ho7 hg7 _;have HL3:=zh ((HL1.keep (zD WX (.cells #[.string nm] 9))).app hnm rfl ho7 hg7));go_meet;exact⟨_,rfl,by have:=HL3.out;exact zh (this.congr (fun t=>by unfold Ck.ownS;rw [kD rfl,HV.out];simp))⟩
       ·by_cases hk2:k=1
        ·subst hk2;clear hk1';have hlk:=zh (zF9 nm _ _ _ HQ.hd.vs);cases hvh:Ck.hasS vs nm
         ·skip;rw [hvh] at hlk;have HV:=zh hvh;clear hvh;go_wp2_with fail;refine hlk.mono ?_;rintro e w4 ⟨rfl,rfl⟩;have q5:=HQ.hd.find.cell (j:=5) (u:= .slice (some ⟨FB,0,none⟩) 13 13) rfl;have f7:=HQ.fcell (k:=7) (by omega);have g7:=HQ.free 7;have HL0:=zh (HQ.set (k:=7) (by omega));go_wp2;go_meet;exact⟨_,rfl,zh (HL0.congr (fun t=>by unfold Ck.ownS;rw [kC (by decide),kD rfl,HV.out];simp))⟩
         ·skip;rw [hvh] at hlk;have HV:=zh hvh;clear hvh;go_wp2_with fail;refine hlk.mono ?_;rintro e w4 ⟨rfl,rfl⟩;go_wp2;go_meet;exact⟨_,rfl,zh (HQ.congr (fun t=>by unfold Ck.ownS;rw [kC (by decide),kD rfl,HV.out];simp))⟩
        ·by_cases hk3:k=2
         ·subst hk3;have hX2:i=2:=okS2 HOK;obtain⟨y,hy⟩:∃x,xs[0]? =some x:=⟨_,kB (by rw [HXN.out];omega)⟩;obtain⟨b',oo',aa,rfl,_,hcy,hbdy,hsl⟩:=HSX.get hy;rw [Nat.zero_mul,Nat.add_zero] at hcy;have y0:=(hcy.keep HBL).1;have hhead:Hid (Ck.zA9 xs=y.kind):=by
           show _=_
           cases hl:xs with
           |nil=>rw [hl] at hy;cases hy
           |cons z r=>rw [hl] at hy;cases hy;rfl
          have hX0:(0:Int)<(i:Int):=(by omega);have q3:=HQ.hd.find.cell (j:=3) (u:=(.slice pf FN cf)) rfl;clear hy hcy hbdy hsl hX2 hk1' hk0 hk2;by_cases hth:y.kind=2
          ·have hth1:(y.kind == 2)=true:=kX.2 hth;have HTH:=zh hth;have KC0:Hid (∀(W:World),Below w0.heap.size w0 W->Calls prog 139 #[(.slice pf FN cf),.string nm] W fun e w'=>e= .returned (.bool (Ck.hasS c.fields nm))/\w'=W):=fun W hb=>KC W nm hb
           clear hth;cases hvh:Ck.hasS c.fields nm
           ·skip;rw [hvh] at KC0;have HV:=zh hvh;clear hvh;go_wp2_with fail
            go_quiet ((go_at_call 139;exact Calls.quiet_of_same (KC0 _ (by first|exact HBL|exact HBL.drew|exact HBL.drew.drew|exact quietB HBL))))
            have HR:=zh (HQ.drewN nq);clear b0 b1 b2 q3 y0 hth1;have q5:=HR.hd.find.cell (j:=5) (u:= .slice (some ⟨FB,0,none⟩) 13 13) rfl;have f10:=HR.fcell (k:=10) (by omega);have g10:=HR.free 10;have HL0:=zh (HR.set (k:=10) (by omega));go_wp2;go_meet;exact⟨_,rfl,zh (HL0.congr (fun t=>by unfold Ck.ownS;rw [kC (by decide),kC (by decide),kD rfl,hhead.out,kS HTH.out,HV.out];simp))⟩
           ·skip;rw [hvh] at KC0;have HV:=zh hvh;clear hvh;go_wp2_with fail
            go_quiet ((go_at_call 139;exact Calls.quiet_of_same (KC0 _ (by first|exact HBL|exact HBL.drew|exact HBL.drew.drew|exact quietB HBL))))
            have HR:=zh (HQ.drewN nq);clear b0 b1 b2 q3 y0 hth1;go_wp2;go_meet;exact⟨_,rfl,zh (HR.congr (fun t=>by unfold Ck.ownS;rw [kC (by decide),kC (by decide),kD rfl,hhead.out,kS HTH.out,HV.out];simp))⟩
          ·have hth1:(y.kind == 2)=false:=kA.2 hth;have HTH:=zh hth;clear hth;go_wp2_with fail
           go_quiet (fail)
           have HR:=zh (HQ.drewN nq);clear b0 b1 b2 q3 y0 hth1;go_wp2;go_meet;exact⟨_,rfl,zh (HR.congr (fun t=>by unfold Ck.ownS;rw [kC (by decide),kC (by decide),kD rfl,hhead.out,kE HTH.out];simp))⟩
         ·by_cases hk4:k=8
          ·subst hk4;have q1:=HQ.hd.find.cell (j:=1) (u:= .string c.name) rfl;have q2:=HQ.hd.find.cell (j:=2) (u:= .bool c.actor) rfl;have q3:=HQ.hd.find.cell (j:=3) (u:= .slice pf FN cf) rfl;have q4:=HQ.hd.find.cell (j:=4) (u:= .slice pm MN cm) rfl;clear hk1' hk0 hk2 hk3;cases hcl:Ck.zAM c.methods nm with
           |none=>
            have KM0:=zh (fun W hb=>KM W nm hb);simp only [hcl,Option.getD_none,Option.isSome_none] at KM0;have HCL:=zh hcl;clear hcl;go_wp2_with fail
            go_region_held3 (fun w'=>w'.cell? ⟨P,1,none⟩=some (.string c.name)/\w'.cell? ⟨P,2,none⟩=some (.bool c.actor)/\w'.cell? ⟨P,3,none⟩=some (.slice pf FN cf)/\w'.cell? ⟨P,4,none⟩=some (.slice pm MN cm)/\w'.cell? ⟨bx,1,none⟩=some (.string nm)/\Hid (RSS w P FB bx (.slice pv CN cpv) c (.slice pf FN cf) (.slice pm MN cm) (.slice ph VL ch) vs #[.int .i64 8,.string nm,.slice px i cx,.slice py YN cy,.slice pz ZN cz] F1 w')) (first|exact zHN (by assumption) hb|exact ⟨q1,q2,q3,q4,b1,HQ⟩|exact ⟨q1,q2,q3,q4,b1,zh HQ.out.drew⟩|go_keep) (first|(go_at_call 97;(with_reducible refine(KM0.out _ (zF4 HBW.out hP0 (by assumption))).mono ?_);rintro e w' ⟨rfl,hb⟩))
            have HR:=zh (zMV (by assumption));clear b0 b1 b2 q1 q2 q3 q4;have q5:=HR.hd.find.cell (j:=5) (u:= .slice (some ⟨FB,0,none⟩) 13 13) rfl;have f11:=HR.fcell (k:=11) (by omega);have g11:=HR.free 11;have HL0:=zh (HR.set (k:=11) (by omega));go_wp2;go_meet;exact⟨_,rfl,zh (HL0.congr (fun t=>by unfold Ck.ownS;rw [kC (by decide),kC (by decide),kC (by decide),kD rfl,HCL.out]))⟩
           |some q=>
            have KM0:=zh (fun W hb=>KM W nm hb);simp only [hcl,Option.getD_some,Option.isSome_some] at KM0;have hql:=zGE hcl;obtain⟨mm,hq⟩:∃x,c.methods[q]? =some x:=⟨_,kB hql⟩;obtain⟨bm,om,vp,vb,rfl,_,hcm,_,hsp,_⟩:=HMV.get hq;obtain⟨pp,cp,rfl⟩:=hsp.form;obtain⟨PL,hPL⟩:∃N,mm.params.length=N:=⟨_,rfl⟩;have HC2:=zh hcm.2.1;rw [hPL] at HC2;have HPL:=zh hPL;have HCL:=zh hcl;have hi2:=zh hq;rw [HMN.out] at hql;clear hcl hq hcm hsp hPL;by_cases h1:PL=1
            ·skip;have h1b:((PL:Int) != 1)=false:=by rw [h1];rfl
             have H1:=zh h1;clear h1;go_wp2_with fail
             go_region_held3 (fun w'=>w'.cell? ⟨P,1,none⟩=some (.string c.name)/\w'.cell? ⟨P,2,none⟩=some (.bool c.actor)/\w'.cell? ⟨P,3,none⟩=some (.slice pf FN cf)/\w'.cell? ⟨P,4,none⟩=some (.slice (some ⟨bm,om,none⟩) MN cm)/\w'.cell? ⟨bx,1,none⟩=some (.string nm)/\Hid (RSS w P FB bx (.slice pv CN cpv) c (.slice pf FN cf) (.slice (some ⟨bm,om,none⟩) MN cm) (.slice ph VL ch) vs #[.int .i64 8,.string nm,.slice px i cx,.slice py YN cy,.slice pz ZN cz] F1 w')) (first|exact zHN (by assumption) hb|exact ⟨q1,q2,q3,q4,b1,HQ⟩|exact ⟨q1,q2,q3,q4,b1,zh HQ.out.drew⟩|go_keep) (first|(go_at_call 97;(with_reducible refine(KM0.out _ (zF4 HBW.out hP0 (by assumption))).mono ?_);rintro e w' ⟨rfl,hb⟩))
             have HR:=zh (zMV (by assumption));clear b0 b1 b2 q1 q2 q3 q4;have HB3:=zh (zO HBW HR.hd.grown hP0);have q4:=HR.hd.find.cell (j:=4) (u:= .slice (some ⟨bm,om,none⟩) MN cm) rfl;have z2:=zA HB3 HC2;go_wp2;go_meet;exact⟨_,rfl,zh (HR.congr (fun t=>by rw [zFN HCL.out hi2.out,HPL.out,kE (p:=PL≠1) (by have:=H1.out;omega)];simp))⟩
            ·skip;have h1b:((PL:Int) != 1)=true:=by rw [bne_iff_ne];omega
             have H1:=zh h1;clear h1;go_wp2_with fail
             go_region_held3 (fun w'=>w'.cell? ⟨P,1,none⟩=some (.string c.name)/\w'.cell? ⟨P,2,none⟩=some (.bool c.actor)/\w'.cell? ⟨P,3,none⟩=some (.slice pf FN cf)/\w'.cell? ⟨P,4,none⟩=some (.slice (some ⟨bm,om,none⟩) MN cm)/\w'.cell? ⟨bx,1,none⟩=some (.string nm)/\Hid (RSS w P FB bx (.slice pv CN cpv) c (.slice pf FN cf) (.slice (some ⟨bm,om,none⟩) MN cm) (.slice ph VL ch) vs #[.int .i64 8,.string nm,.slice px i cx,.slice py YN cy,.slice pz ZN cz] F1 w')) (first|exact zHN (by assumption) hb|exact ⟨q1,q2,q3,q4,b1,HQ⟩|exact ⟨q1,q2,q3,q4,b1,zh HQ.out.drew⟩|go_keep) (first|(go_at_call 97;(with_reducible refine(KM0.out _ (zF4 HBW.out hP0 (by assumption))).mono ?_);rintro e w' ⟨rfl,hb⟩))
             have HR:=zh (zMV (by assumption));clear b0 b1 b2 q1 q2 q3 q4;have HB3:=zh (zO HBW HR.hd.grown hP0);have q4:=HR.hd.find.cell (j:=4) (u:= .slice (some ⟨bm,om,none⟩) MN cm) rfl;have z2:=zA HB3 HC2;have q5:=HR.hd.find.cell (j:=5) (u:= .slice (some ⟨FB,0,none⟩) 13 13) rfl;have f12:=HR.fcell (k:=12) (by omega);have g12:=HR.free 12;have HL0:=zh (HR.set (k:=12) (by omega));go_wp2;go_meet;exact⟨_,rfl,zh (HL0.congr (fun t=>by rw [zFN HCL.out hi2.out,HPL.out,kS (p:=PL≠1) (by have:=H1.out;omega)];simp))⟩
          ·have h0b:(k == 0)=false:=kA.2 hk0;have h1b:(k == 1)=false:=kA.2 hk2;have h2b:(k == 2)=false:=kA.2 hk3;have h8b:(k == 8)=false:=kA.2 hk4;have hown:Hid (∀t,Ck.ownS c vs k nm xs t=false):=fun t=>by unfold Ck.ownS;rw [kC hk0,kC hk2,kC hk3,kC hk4]
           have hav:Hid (Ck.addVar k nm vs=vs):=by show _=_;unfold Ck.addVar;rw [kC hk0]
           clear hk0 hk2 hk3 hk4 hk1';go_wp2;go_meet;rw [hav.out];exact⟨_,rfl,zh (HQ.congr (fun t=>by rw [hown.out,Bool.or_false]))⟩
      case rest=>
       obtain⟨hv,rfl,HM⟩:=hcut;clear b0 b1 b2 KC KM;obtain⟨p6,c6,rfl⟩:=own_form HM.hd.own;have b3:=HM.box 3 _ rfl;have HBM:=zh (zO HBW HM.hd.grown hP0);obtain⟨VL2,hVL2⟩:∃q,(Ck.addVar k nm vs).length=q:=⟨_,rfl⟩;have hbl:=HBD.out;have hlen2:=zJV k nm vs;have HIB:Hid ((Ck.addVar k nm vs).length+Ck.lets bd<=1000000):=by show _<=_;omega
       have HIE:Hid ((Ck.addVar k nm vs).length+Ck.lets el<=1000000):=by show _<=_;omega
       rw [hVL2] at HM |-;clear hVL2 hbl hlen2;go_wp2_with fail;refine(HIH (d -1) (by omega) bd _ _ _ _ _ dp2 HVB (by have:=HSY.out;exact this) HBM HM.hd.find HM.hd.vs HIB).mono ?_;rintro e w5 ⟨rfl,hP5,hg5⟩;have HM5:=zh (HM.next hP5 hg5);have HBM5:=zh (zO HBW HM5.hd.grown hP0);have d4:=HM5.box 4 _ rfl;clear hP5 hg5 b3;go_wp2_with fail;refine(HIH (d -1) (by omega) el _ _ _ _ _ dp3 HVE (by have:=HSZ.out;exact this) HBM5 HM5.hd.find HM5.hd.vs HIE).mono ?_;rintro e w6 ⟨rfl,hP6,hg6⟩;have HM6:=zh (HM5.next hP6 hg6);clear hP6 hg6 d4;go_wp2;go_roundg (N -(j+1))
       case measure=>omega
       case rel=>
        refine⟨j+1,by go_num,by omega,rfl,zh ?_⟩;rw [hvarn.out];refine HM6.hd.congr (fun t=>?_);rw [hsnoc.out t,<-HF1.out,<-HFJ.out,Ck.faultS];simp only [Bool.or_assoc]
   ·go_wp2_with fail;go_end0;have hfull:l.take j=l:=kR (by rw [HN.out];omega);refine⟨rfl,HST.find.congr (fun t=>?_),HST.grown⟩;rw [hfull]
end
section
open Go.RowKit Go.Maps
def fCells (x:Ck.F):List Value:= [.int .i64 (x.line:Int),.int .i64 (x.cls:Int),.int .i64 (idxI x.mth)]
theorem zJQ (x:Ck.F):(fCells x).length=3:=rfl
theorem zJP (l:List Ck.F):∀a∈l,∀u∈fCells a,u.oneCell'=true:=by
 intro a _ u hu;simp only [fCells,kV,List.not_mem_nil,or_false] at hu;rcases hu with rfl|rfl|rfl<;>rfl
theorem zOD (l:List Ck.F):∀u∈flatV fCells l,u.oneCell'=true:=by
 intro u hu;unfold flatV at hu;obtain⟨a,ha,hu⟩:=List.mem_flatMap.1 hu;exact zJP l a ha u hu
theorem frInfo:(prog.info? 113).map (fun i=>(i.zero,i.size,i.bytes))=some (some (.agg #[.int .i64 0,.int .i64 0,.int .i64 0]),3,24):=by kernel_rfl
def atRow (i:Nat) (m:Option Nat) (ts:List Nat):List Ck.F:=ts.map fun t=>⟨t,i,m⟩
def AtPost (i:Nat) (m:Option Nat) (f:Nat->Bool) (w:World) (e:Ending) (w':World):Prop:=
 ∃v,e= .returned v/\w'.ownsRow w.heap.size 113 3 v (atRow i m (Ck.found f)).length (flatV fCells (atRow i m (Ck.found f)))/\Below w.heap.size w w'
theorem zSK (i:Nat) (m:Option Nat) (f:Nat->Bool) (k:Nat):(atRow i m (foundTo f k)).length<=k:=by
 unfold atRow;rw [List.length_map];exact zID f k
theorem zSL (FB:Nat) (f:Nat->Bool) (i:Nat) (m:Option Nat) (mz:Int) (hm:mz=idxI m) (w:World) (hF:w.heap[FB]? =some (.cells (zAI f) 4 (0,0))):
 Calls prog 96 #[.slice (some ⟨FB,0,none⟩) 13 13,.int .i64 i,.int .i64 mz] w (AtPost i m f w):=by
 obtain⟨i0,hi0,hz0,hz1,hz2⟩:=info_parts frInfo;have HF:=zh hF;have HM:=zh hm;have hbe:=zD w (.cells #[] 113);have HBE:=zh hbe;have HO0:=zh (own_empty w 113 3);clear hF hm hbe;go_in;go_wp2
 go_loopg [7,8] 13 (fun g s7 s8 wr=>∃t:Nat,s8= .int .i64 t/\t<=13/\g=13 -t/\Hid (wr.ownsRow w.heap.size 113 3 s7 (atRow i m (foundTo f t)).length (flatV fCells (atRow i m (foundTo f t))))/\Hid (Below w.heap.size w wr))
 case atStart=>exact ⟨0,rfl,kO _,rfl,HO0,HBE⟩
 case round=>
  obtain⟨t,rfl,ht,rfl,HO,HBR⟩:=hrel;clear HO0 HBE;by_cases hlt:t<13
  ·have hc:=zA HBR (zEI HF hlt);have hal:=zSK i m f t;have hb3:(t:Int)<13:=(by omega);cases hf:f t
   ·rw [hf] at hc;have hn:=zh (zJJ hf);clear hf;go_wp2;go_roundg (13 -(t+1))
    case measure=>omega
    case rel=>exact ⟨t+1,by go_num,by omega,rfl,by rw [hn.out];exact HO,HBR⟩
   ·rw [hf] at hc;have hn:=zh (zIC hf);clear hf;have HSRC:=zh (SrcAt.lit (f:=fCells) wr ⟨t,i,m⟩ 113 #[.int .i64 t,.int .i64 i,.int .i64 mz] (by rw [HM.out];rfl) 1);obtain⟨ln,hln⟩:∃q,(atRow i m (foundTo f t)).length=q:=⟨_,rfl⟩;have HLN:=zh hln;rw [hln] at hal;clear hln;go_wp2_with (at_builtin;refine wpList_append_src fCells 3 zJQ rfl _ _ 109 rfl w.heap.size 113 i0 (.agg #[.int .i64 0,.int .i64 0,.int .i64 0]) 24 underlying109 hi0 hz0 hz1 hz2 rfl (by decide) _ _ (atRow i m (foundTo f t)) [⟨t,i,m⟩] rfl rfl (HO.alloc _) HSRC (zJP _) (by rw [HLN.out];unfold maxLen;simp;omega) (by rw [HLN.out];simp;omega) (by have:=HBR.size;simp<;>omega) ?_;intro v7 w7 ho7 hg7);go_roundg (13 -(t+1))
    case measure=>omega
    case rel=>
     refine⟨t+1,by go_num,by omega,rfl,?_,zh ((HBR.alloc HBR.size _).grown hg7 (by have:=HBR.size;simp<;>omega) fun q hq=>(own_ge HO hq).1)⟩;have e:atRow i m (foundTo f (t+1))=atRow i m (foundTo f t)++ [⟨t,i,m⟩]:=by rw [hn.out];unfold atRow;rw [List.map_append];rfl
     rw [e];exact zh ho7
  ·obtain rfl:t=13:=by omega
   go_wp2;go_ret;exact⟨_,rfl,HO,HBR⟩
def GoodG (o:Obj):Prop:=(∀cs r,o≠ .cells cs 113 r)/\(∀cs r,o≠ .cells cs 4 r)
theorem zG7 (cs:Array Value) (t:TypeId) (r:Nat × Nat) (h1:t≠113) (h2:t≠4):GoodG (.cells cs t r):=
 ⟨fun cs' r' h=>by cases h;exact h1 rfl,fun cs' r' h=>by cases h;exact h2 rfl⟩
structure GS0 (w:World) (L:List (Nat × Obj)) (out:Value) (l:List Ck.F) (W:World):Prop where
 own:W.ownsRow w.heap.size 113 3 out l.length (flatV fCells l)
 below:Below w.heap.size w W
 kept:∀x∈L,W.heap[x.1]? =some x.2/\GoodG x.2
structure GSt (w:World) (L:List (Nat × Obj)) (FB:Nat) (f:Nat->Bool) (out:Value) (l:List Ck.F) (W:World):Prop where
 st:GS0 w L out l W
 fnd:W.heap[FB]? =some (.cells (zAI f) 4 (0,0))
 hF:w.heap.size<=FB
section
variable {w:World} {L:List (Nat × Obj)} {FB:Nat} {f:Nat->Bool} {out:Value} {l:List Ck.F} {W W':World}
theorem GS0.keep (h:GS0 w L out l W) (hb:Below W.heap.size W W'):GS0 w L out l W':=
 ⟨zCD h.own hb,zC h.below hb,fun x hx=>⟨(hb.block x.1 (lt_of_block (h.kept x hx).1)).trans (h.kept x hx).1,(h.kept x hx).2⟩⟩
theorem GS0.add (h:GS0 w L out l W) {b:Nat} {o:Obj} (hb:W.heap[b]? =some o) (hg:GoodG o):GS0 w ((b,o)::L) out l W:=
 ⟨h.own,h.below,fun x hx=>by rcases kV.1 hx with rfl|hx;exact⟨hb,hg⟩;exact h.kept x hx⟩
theorem GS0.less {K:List (Nat × Obj)} (h:GS0 w L out l W) (hK:∀x∈K,x∈L):GS0 w K out l W:=⟨h.own,h.below,fun x hx=>h.kept x (hK x hx)⟩
theorem GS0.box (h:GS0 w L out l W) (cs:Array Value) (t:TypeId) (h1:t≠113) (h2:t≠4):GS0 w ((W.heap.size,.cells cs t)::L) out l (W.alloc (.cells cs t)):=
 (h.keep (zD _ _)).add (MapKept.heap_alloc W _).1 (zG7 _ _ _ h1 h2)
theorem GS0.cell (h:GS0 w L out l W) {b j:Nat} {u:Value} {cs:Array Value} {t:TypeId} (hx:(b,Obj.cells cs t)∈L) (hj:cs[j]? =some u):W.cell? ⟨b,j,none⟩=some u:=zHC (h.kept _ hx).1 hj
theorem GS0.made (h:GS0 w L out l W) (f:Nat->Bool):GSt w L W.heap.size f out l (W.alloc (.cells (zAI f) 4)):=
 ⟨h.keep (zD _ _),(MapKept.heap_alloc W _).1,h.below.size⟩
theorem GSt.keep (h:GSt w L FB f out l W) (hb:Below W.heap.size W W'):GSt w L FB f out l W':=⟨h.st.keep hb,(hb.block FB (lt_of_block h.fnd)).trans h.fnd,h.hF⟩
theorem GSt.grow (h:GSt w L FB f out l W) {g:Nat->Bool} (hp:W'.heap[FB]? =some (.cells (zAI g) 4 (0,0))) (hg:W.grownBy W' (some FB)):GSt w L FB g out l W':=by
 refine⟨⟨h.st.own.kept hg ?_,h.st.below.grown hg h.st.below.size (fun q hq=>by cases hq;exact h.hF),fun x hx=>⟨(hg.block x.1 (lt_of_block (h.st.kept x hx).1) (fun e=>?_)).trans (h.st.kept x hx).1,(h.st.kept x hx).2⟩⟩,hp,h.hF⟩
 ·cases hq:out.ownBlock with
  |none=>exact .inl rfl
  |some q=>
   right
   intro e;cases e;obtain⟨_,cur,hc⟩:=own_ge h.st.own hq;have:=hc.symm.trans h.fnd;simp only [Option.some.injEq,Obj.cells.injEq] at this;exact absurd this.2.1 (by decide)
 ·cases e;exact(h.st.kept x hx).2.2 _ _ (Option.some.inj ((h.st.kept x hx).1.symm.trans h.fnd))
theorem GSt.set (h:GSt w L FB f out l W) (b:Bool) {k:Nat} (hk:k<13):GSt w L FB (fun t=>if t=k then b else f t) out l (W.setCell ⟨FB,k,none⟩ (.bool b)):=h.grow (zL1 h.fnd b hk) (zB6 _ _ _ _)
theorem GSt.fcell (h:GSt w L FB f out l W) {k:Nat} (hk:k<13):W.cell? ⟨FB,k,none⟩=some (.bool (f k)):=zEI h.fnd hk
theorem GSt.free (h:GSt w L FB f out l W) (k:Nat):W.frozen? ⟨FB,k,none⟩=false:=zGD h.fnd k
theorem GSt.congr (h:GSt w L FB f out l W) {g:Nat->Bool} (he:∀t,f t=g t):GSt w L FB g out l W:=by
 have:f=g:=funext he;rw [<-this];exact h
theorem GSt.add (h:GSt w L FB f out l W) {b:Nat} {o:Obj} (hb:W.heap[b]? =some o) (hg:GoodG o):GSt w ((b,o)::L) FB f out l W:=⟨h.st.add hb hg,h.fnd,h.hF⟩
theorem GS0.app (h:GS0 w L out l W) {v':Value} {r:List Ck.F} {n:Nat} (hn:n=l.length+r.length) (ho:W'.ownsRow w.heap.size 113 3 v' n (flatV fCells l++flatV fCells r)) (hg:W.grownBy W' out.ownBlock):GS0 w L v' (l++r) W':=by
 refine⟨?_,h.below.grown hg h.below.size (fun q hq=>(own_ge h.own hq).1),fun x hx=>⟨(hg.block x.1 (lt_of_block (h.kept x hx).1) (fun e=>?_)).trans (h.kept x hx).1,(h.kept x hx).2⟩⟩
 ·subst hn;rw [kN,flatV_append];exact ho
 ·obtain⟨_,cur,hc⟩:=own_ge h.own e.symm;exact(h.kept x hx).2.1 _ _ (Option.some.inj ((h.kept x hx).1.symm.trans hc))
end
theorem zGO (cs:List Tr.C) (i:Nat) (c:Tr.C) (m:Tr.M):∀(l:List Tr.M) (k:Nat),Ck.faultsM cs i c (l++ [m]) k=Ck.faultsM cs i c l k++atRow i (some (k+l.length)) (Ck.found (Ck.faultM cs c (k+l.length) m))
 | [],k=>by simp [Ck.faultsM,atRow]
 |x::r,k=>by
  rw [List.cons_append,Ck.faultsM,Ck.faultsM,zGO cs i c m r,List.append_assoc,kI,show k+1+r.length=k+(r.length+1) by omega]
theorem zGP (cs:List Tr.C) (c:Tr.C):∀(l:List Tr.C) (i:Nat),Ck.faultsC cs (l++ [c]) i=Ck.faultsC cs l i++(atRow (i+l.length) none (Ck.found (Ck.faultC cs (i+l.length) c))++Ck.faultsM cs (i+l.length) c c.methods 0)
 | [],i=>by simp [Ck.faultsC,atRow]
 |x::r,i=>by
  rw [List.cons_append,Ck.faultsC,Ck.faultsC,zGP cs c r,kI,show i+1+r.length=i+(r.length+1) by omega];simp only [List.append_assoc]
theorem zND (cs:List Tr.C) (i:Nat) (c:Tr.C) (l:List Tr.M) (k:Nat):(Ck.faultsM cs i c l k).length<=13*l.length:=by
 have h:=congrArg List.length (Ck.zEX cs i c l k);rw [List.length_map,List.length_map] at h;rw [<-h];exact Ck.zFI cs c l k
theorem zIF (cs:List Tr.C) (l:List Tr.C) (i:Nat):(Ck.faultsC cs l i).length<=13*Ck.cnt l:=by
 have h:=congrArg List.length (Ck.zEY cs l i);rw [List.length_map,List.length_map] at h;rw [<-h];exact Ck.zFJ cs l i
theorem zIN (i:Nat) (m:Option Nat) (f:Nat->Bool):(atRow i m (Ck.found f)).length<=13:=by
 unfold atRow;rw [List.length_map];exact Ck.zD7 f
end
end Go.Proofs.YtcnmfcgmnkncaaaGreatDoor
