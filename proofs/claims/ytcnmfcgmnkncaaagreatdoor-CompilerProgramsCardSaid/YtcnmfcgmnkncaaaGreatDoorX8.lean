/-
  CoGen, CoPut, TrAllM, TrAllC.
-/
import Derived.Test.YtcnmfcgmnkncaaaGreatDoorX7
set_option maxRecDepth 100000
set_option maxHeartbeats 40000000
open Go.Proofs.Tryz
namespace Go.Proofs.YtcnmfcgmnkncaaaGreatDoor
section
namespace Cw
open Go.RowKit Go.Maps Pw
def iCells (x:Co.Ins):List Value:= [.int .i64 x.1,.int .i64 x.2.1,.int .i64 x.2.2]
def zBF (x:BA × Nat):List Value:= [.string x.1,.int .i64 x.2]
theorem zBW (x:Co.Ins):(iCells x).length=3:=rfl
theorem zAS (x:BA × Nat):(zBF x).length=2:=rfl
theorem zDC (x:Co.Ins):∀u∈iCells x,u.oneCell'=true:=by
 intro u hu;simp only [iCells,kV,List.not_mem_nil,or_false] at hu;rcases hu with rfl|rfl|rfl<;>rfl
theorem zBI (x:BA × Nat):∀u∈zBF x,u.oneCell'=true:=by
 intro u hu;simp only [zBF,kV,List.not_mem_nil,or_false] at hu;rcases hu with rfl|rfl<;>rfl
theorem zM1 (x:BA):∀u∈nCells x,u.oneCell'=true:=by
 intro u hu;simp only [nCells,kV,List.not_mem_nil,or_false] at hu;subst hu
 rfl
theorem zAP {W W':World} {B:Nat} {e:TypeId} {k n:Nat} {v:Value} {xs:List Value} (h:W.ownsRow B e k v n xs) (hk:∀q,v.ownBlock=some q->W'.heap[q]? =W.heap[q]?):W'.ownsRow B e k v n xs:=by
 refine⟨h.1,?_⟩;rcases h.2 with hn|⟨g,cap,cur,rfl,hb,hg,rest⟩
 ·exact .inl hn
 ·exact .inr ⟨g,cap,cur,rfl,hb,(hk g rfl).trans hg,rest⟩
theorem zAE {W:World} {B:Nat} {e:TypeId} {k n:Nat} {v:Value} {xs:List Value} (h:W.ownsRow B e k v n xs) {q:Nat} (hq:v.ownBlock=some q):B<=q/\q<W.heap.size:=by
 obtain⟨h1,cur,h2⟩:=own_ge h hq;exact⟨h1,lt_of_block h2⟩
section
variable {P:Program} {α:Type} {f:α->List Value} {k:Nat} {e:TypeId} {B:Nat} {w:World} {v:Value} {tr:List α}
theorem zNR (hf:∀a,(f a).length=k) (t ty:TypeId) (i:TypeInfo) (z:Value) (bytes:Nat) (ht:P.underlying t=some (.slice e)) (hi:P.info? e=some i) (hz:i.zero=some z) (hsize:i.size=k) (hby:i.bytes=bytes) (hzs:z.cells.size=k) (hsz:0<k)
 (hrow:w.ownsRow B e k v tr.length (flatV f tr)) (G:Nat) (cs:Array Value) (x:α) (hG:w.heap[G]? =some (.cells cs e (0,0))) (hcs:cs.toList=f x) (h1:∀u∈f x,u.oneCell'=true) (hlen:tr.length+1<=maxLen) (hbytes:(tr.length+1)*bytes<=140737488355328) (hbase:B<=w.heap.size):
 ∃v' w',(Builtin.append_ #[t,t] ty #[v,.slice (some ⟨G,0,none⟩) 1 1]).run P w= .ok v' w'/\w'.ownsRow B e k v' (tr++ [x]).length (flatV f (tr++ [x]))/\w.grownBy w' v.ownBlock/\(v'.ownBlock=v.ownBlock\/v'.ownBlock=some w.heap.size):=by
 have hnews:∀j u,(f x)[j]? =some u->w.cell? ((⟨G,0,none⟩:Addr).add j)=some u:=fun j u hj=>by
  have e:(⟨G,0,none⟩:Addr).add j=⟨G,0+j,none⟩:=by unfold Addr.add;split<;>simp_all
  rw [e,Nat.zero_add];refine zB hG ?_;rw [<-hcs,Array.getElem?_toList] at hj;exact hj
 obtain⟨v',w',hr,h2,h3,h4⟩:=run_append_own (P:=P) w B t ty e i z k bytes ht hi hz hsize hby hzs hsz v tr.length (flatV f tr) hrow ⟨G,0,none⟩ 1 1 (f x) (by rw [hf,Nat.one_mul]) hnews h1 hlen hbytes hbase;have h5:=zDW w B t ty e i z k bytes ht hi hz hsize hby v tr.length (flatV f tr) hrow ⟨G,0,none⟩ 1 1 (f x) (by rw [hf,Nat.one_mul]) (by decide) hnews h1 hlen hbytes v' w' hr;refine⟨v',w',hr,?_,h3,h5⟩;rw [kN,flatV_append,flatV_cons,flatV_nil,List.append_nil];exact h2
theorem zDJ (hf:∀a,(f a).length=k) {ops:Array Oper} {rest:List Oper} {o:Oper} {a:Act} {Q:Exit->Act->World->Prop} (hgd:o.guard=none) (s y:Operand) (t:TypeId)
 (ho:o.op= .call { callee:= .builtin .append,args:= #[s,y],argTypes:= #[t,t] })
 (i:TypeInfo) (z:Value) (bytes:Nat) (ht:P.underlying t=some (.slice e)) (hi:P.info? e=some i) (hz:i.zero=some z) (hsize:i.size=k) (hby:i.bytes=bytes) (hzs:z.cells.size=k) (hsz:0<k)
 (hs:a.eval s=v) (hrow:w.ownsRow B e k v tr.length (flatV f tr)) (G:Nat) (cs:Array Value) (x:α) (hy:a.eval y= .slice (some ⟨G,0,none⟩) 1 1) (hG:w.heap[G]? =some (.cells cs e (0,0))) (hcs:cs.toList=f x) (h1:∀u∈f x,u.oneCell'=true) (hlen:tr.length+1<=maxLen) (hbytes:(tr.length+1)*bytes<=140737488355328) (hbase:B<=w.heap.size)
 (h:∀v' w',w'.ownsRow B e k v' (tr++ [x]).length (flatV f (tr++ [x]))->w.grownBy w' v.ownBlock->(v'.ownBlock=v.ownBlock\/v'.ownBlock=some w.heap.size)->wpList P ops Q rest (a.put o.dst v') w'):wpList P ops Q (o::rest) a w:=
 wpList_plain hgd fun K hK=>by
  obtain⟨v',w',hr,h2,h3,h4⟩:=zNR (P:=P) hf t o.type i z bytes ht hi hz hsize hby hzs hsz hrow G cs x hG hcs h1 hlen hbytes hbase;unfold Oper.wp execOp;simp only [ho,resolve,invoke,builtin,Sem.run_bind,Sem.run_pure,Result.andThen_ok,List.map_toArray,List.map_cons,List.map_nil,hs,hy,hr];exact hK _ _ (h v' w' h2 h3 h4)
theorem zFB (hf:∀a,(f a).length=k) {ops:Array Oper} {E:Prop} {o:Oper} {a:Act} {K:Act->World->Prop} {Q:Exit->Act->World->Prop} (hgd:o.guard=none) (s y:Operand) (t:TypeId)
 (ho:o.op= .call { callee:= .builtin .append,args:= #[s,y],argTypes:= #[t,t] })
 (i:TypeInfo) (z:Value) (bytes:Nat) (ht:P.underlying t=some (.slice e)) (hi:P.info? e=some i) (hz:i.zero=some z) (hsize:i.size=k) (hby:i.bytes=bytes) (hzs:z.cells.size=k) (hsz:0<k)
 (hs:a.eval s=v) (hrow:w.ownsRow B e k v tr.length (flatV f tr)) (G:Nat) (cs:Array Value) (x:α) (hy:a.eval y= .slice (some ⟨G,0,none⟩) 1 1) (hG:w.heap[G]? =some (.cells cs e (0,0))) (hcs:cs.toList=f x) (h1:∀u∈f x,u.oneCell'=true) (hlen:tr.length+1<=maxLen) (hbytes:(tr.length+1)*bytes<=140737488355328) (hbase:B<=w.heap.size)
 (h:∀v' w',w'.ownsRow B e k v' (tr++ [x]).length (flatV f (tr++ [x]))->w.grownBy w' v.ownBlock->(v'.ownBlock=v.ownBlock\/v'.ownBlock=some w.heap.size)->K (a.put o.dst v') w'):if Region.wanted o (yielded ops a.tmps)=true then Oper.wp P o a w K Q else E:=by
 have hw:Region.wanted o (yielded ops a.tmps)=true:=by simp [Region.wanted,hgd]
 rw [kD hw];obtain⟨v',w',hr,h2,h3,h4⟩:=zNR (P:=P) hf t o.type i z bytes ht hi hz hsize hby hzs hsz hrow G cs x hG hcs h1 hlen hbytes hbase;unfold Oper.wp execOp;simp only [ho,resolve,invoke,builtin,Sem.run_bind,Sem.run_pure,Result.andThen_ok,List.map_toArray,List.map_cons,List.map_nil,hs,hy,hr];exact h v' w' h2 h3 h4
end
def loW (B0:Nat) (W:World):World:=hide (fun b=>decide (B0<=b)) W
theorem zCF {B0:Nat} {W W':World} (hs:W.heap.size<=W'.heap.size) (h:∀b,b<W.heap.size->b<B0->W'.heap[b]? =W.heap[b]?):Inc (loW B0 W) (loW B0 W'):=by
 refine⟨by unfold loW;rw [zAW,zAW];exact hs,fun b o v hc=>?_⟩;obtain⟨h1,h2⟩:=zQ hc;have h3:b<B0:=by
  have:=of_decide_eq_false h1;omega
 unfold loW;rw [zBB h1];have h4:=h b (zAR h2) h3;unfold World.cell? at h2 |-;rw [h4];exact h2
def owl (gb:Nat) (cv nv vv:Value):List Nat:=gb::(ownL cv++(ownL nv++ownL vv))
structure GS (B0 gb:Nat) (cs:List Tr.C) (cl:Tr.C) (pv fv mv:Value) (g:Co.G) (cv nv vv:Value) (W:World):Prop where
 blk:W.heap[gb]? =some (.cells #[pv,.string cl.name,.bool cl.actor,fv,mv,cv,nv,vv,.int .i64 g.locals,.int .i64 g.depth,.int .i64 g.most,.bool g.large] 104 (0,0))
 code:W.ownsRow B0 65 3 cv g.code.length (flatV iCells g.code)
 names:W.ownsRow B0 9 1 nv g.names.length (flatV nCells g.names)
 vars:W.ownsRow B0 106 2 vv g.vars.length (flatV zBF g.vars)
 nd:(owl gb cv nv vv).Nodup
 ge:B0<=gb
 ns:∀s∈g.names,s.size<=maxLen
 vs:∀x∈g.vars,x.1.size<=maxLen
 pc:SlC (loW B0 W) pv cs
 fc:SlStr (loW B0 W) fv cl.fields
section
variable {B0 gb:Nat} {cs:List Tr.C} {cl:Tr.C} {pv fv mv:Value} {g:Co.G} {cv nv vv:Value} {W W':World}
theorem zZ {q:Nat}:q∈owl gb cv nv vv↔q=gb\/cv.ownBlock=some q\/nv.ownBlock=some q\/vv.ownBlock=some q:=by
 unfold owl;rw [kV,kU,kU,zAL,zAL,zAL]
theorem zB3:(owl gb cv nv vv).Nodup↔(cv.ownBlock≠some gb/\nv.ownBlock≠some gb/\vv.ownBlock≠some gb)/\(∀q,cv.ownBlock=some q->nv.ownBlock≠some q/\vv.ownBlock≠some q)/\(∀q,nv.ownBlock=some q->vv.ownBlock≠some q):=by
 have h1:∀v:Value,(ownL v).Nodup:=fun v=>by unfold ownL;cases v.ownBlock<;>simp
 unfold owl;rw [List.nodup_cons,List.nodup_append,List.nodup_append];simp only [kU,zAL,not_or]
 constructor
 ·rintro ⟨⟨a,b,c⟩,_,⟨_,_,d⟩,e⟩;exact⟨⟨a,b,c⟩,fun q hq=>⟨fun h=>e q hq q (.inl h) rfl,fun h=>e q hq q (.inr h) rfl⟩,fun q hq h=>d q hq q h rfl⟩
 ·rintro ⟨⟨a,b,c⟩,d,e⟩;exact⟨⟨a,b,c⟩,h1 _,⟨h1 _,h1 _,fun q hq r hr hqr=>e q hq (hqr▸hr)⟩,fun q hq r hr hqr=>by
   subst hqr;rcases hr with hr|hr
   ·exact(d q hq).1 hr
   ·exact(d q hq).2 hr⟩
theorem GS.ol (h:GS B0 gb cs cl pv fv mv g cv nv vv W):∀b∈owl gb cv nv vv,b<W.heap.size/\B0<=b:=by
 intro b hb;rcases zZ.1 hb with rfl|hb|hb|hb
 ·exact⟨lt_of_block h.blk,h.ge⟩
 ·exact(zAE h.code hb).symm
 ·exact(zAE h.names hb).symm
 ·exact(zAE h.vars hb).symm
theorem GS.keep (h:GS B0 gb cs cl pv fv mv g cv nv vv W) (hs:W.heap.size<=W'.heap.size) (hk:∀b,b<W.heap.size->(b∈owl gb cv nv vv\/b<B0)->W'.heap[b]? =W.heap[b]?):GS B0 gb cs cl pv fv mv g cv nv vv W' where
 blk:=(hk gb (lt_of_block h.blk) (.inl (zZ.2 (.inl rfl)))).trans h.blk
 code:=zAP h.code (fun q hq=>hk q (zAE h.code hq).2 (.inl (zZ.2 (.inr (.inl hq)))))
 names:=zAP h.names (fun q hq=>hk q (zAE h.names hq).2 (.inl (zZ.2 (.inr (.inr (.inl hq))))))
 vars:=zAP h.vars (fun q hq=>hk q (zAE h.vars hq).2 (.inl (zZ.2 (.inr (.inr (.inr hq))))))
 nd:=h.nd
 ge:=h.ge
 ns:=h.ns
 vs:=h.vs
 pc:=h.pc.inc (zCF hs (fun b hb h0=>hk b hb (.inr h0)))
 fc:=h.fc.inc (zCF hs (fun b hb h0=>hk b hb (.inr h0)))
theorem GS.pcw (h:GS B0 gb cs cl pv fv mv g cv nv vv W):SlC W pv cs:=h.pc.inc (zG5 _ _)
theorem GS.fcw (h:GS B0 gb cs cl pv fv mv g cv nv vv W):SlStr W fv cl.fields:=h.fc.inc (zG5 _ _)
theorem zOT {B:Nat} {v:Value} {l:List BA} (h:W.ownsRow B 9 1 v l.length (flatV nCells l)) (hs:∀x∈l,x.size<=maxLen):SlStr W v l:=slStr_own h hs
theorem GS.put (h:GS B0 gb cs cl pv fv mv g cv nv vv W) (j:Nat) (u:Value) {g':Co.G} (hc:g'.code=g.code) (hn:g'.names=g.names) (hv:g'.vars=g.vars)
 (hb:(#[pv,.string cl.name,.bool cl.actor,fv,mv,cv,nv,vv,.int .i64 g.locals,.int .i64 g.depth,.int .i64 g.most,.bool g.large]:Array Value).setIfInBounds j u= #[pv,.string cl.name,.bool cl.actor,fv,mv,cv,nv,vv,.int .i64 g'.locals,.int .i64 g'.depth,.int .i64 g'.most,.bool g'.large]):
 GS B0 gb cs cl pv fv mv g' cv nv vv (W.setCell ⟨gb,j,none⟩ u)/\Gr W (owl gb cv nv vv) (W.setCell ⟨gb,j,none⟩ u) (owl gb cv nv vv):=by
 have hg:=zW W gb j u;obtain⟨⟨d1,d2,d3⟩,d4,d5⟩:=zB3.1 h.nd;have ho:∀q,q≠gb->q<W.heap.size->(W.setCell ⟨gb,j,none⟩ u).heap[q]? =W.heap[q]?:=fun q hq hlt=>hg.block q hlt (ne_sm hq)
 refine⟨⟨?_,?_,?_,?_,h.nd,h.ge,by rw [hn];exact h.ns,by rw [hv];exact h.vs,h.pc.inc ?_,h.fc.inc ?_⟩,Gr.by hg (zZ.2 (.inl rfl))⟩
 ·have h2:=Pw.heap_set (j:=j) u h.blk;rw [hb] at h2;exact h2
 ·rw [hc];exact zAP h.code (fun q hq=>ho q (fun e=>d1 (e▸hq)) (zAE h.code hq).2)
 ·rw [hn];exact zAP h.names (fun q hq=>ho q (fun e=>d2 (e▸hq)) (zAE h.names hq).2)
 ·rw [hv];exact zAP h.vars (fun q hq=>ho q (fun e=>d3 (e▸hq)) (zAE h.vars hq).2)
 ·exact zCF hg.size (fun b hb h0=>ho b (by have:=h.ge;omega) hb)
 ·exact zCF hg.size (fun b hb h0=>ho b (by have:=h.ge;omega) hb)
theorem GS.addCode (h:GS B0 gb cs cl pv fv mv g cv nv vv W) {x:Co.Ins} {v':Value} (hr:W'.ownsRow B0 65 3 v' (g.code++ [x]).length (flatV iCells (g.code++ [x]))) (hg:W.grownBy W' cv.ownBlock) (hf:v'.ownBlock=cv.ownBlock\/v'.ownBlock=some W.heap.size):
 GS B0 gb cs cl pv fv mv { g with code:=g.code++ [x] } v' nv vv (W'.setCell ⟨gb,5,none⟩ v')/\Gr W (owl gb cv nv vv) (W'.setCell ⟨gb,5,none⟩ v') (owl gb v' nv vv):=by
 obtain⟨⟨d1,d2,d3⟩,d4,d5⟩:=zB3.1 h.nd;have hs:=zW W' gb 5 v';have hlt:=h.ol;have hgb:=lt_of_block h.blk;have hb1:W'.heap[gb]? =_:=gr_at hg h.blk (fun e=>d1 e.symm);have hne:∀q,v'.ownBlock=some q->q≠gb:=fun q hq e=>by
  subst e;rcases hf with hf|hf
  ·exact d1 (hf▸hq)
  ·rw [hf] at hq;injection hq with hq
   omega
 have hr2:(W'.setCell ⟨gb,5,none⟩ v').ownsRow B0 65 3 v' (g.code++ [x]).length (flatV iCells (g.code++ [x])):=zAP hr (fun q hq=>hs.block q (zAE hr hq).2 (ne_sm (hne q hq)));have hnd:(owl gb v' nv vv).Nodup:=by
  rw [zB3];have hfr:∀q,v'.ownBlock=some q->q<W.heap.size->cv.ownBlock=some q:=fun q hq hl=>by
   rcases hf with hf|hf
   ·exact hf▸hq
   ·rw [hf] at hq;injection hq with hq
    omega
  refine⟨⟨fun e=>hne gb e rfl,d2,d3⟩,fun q hq=>⟨fun e=>?_,fun e=>?_⟩,d5⟩
  ·exact(d4 q (hfr q hq (zAE h.names e).2)).1 e
  ·exact(d4 q (hfr q hq (zAE h.vars e).2)).2 e
 have hlo:∀b,b<W.heap.size->b<B0->(W'.setCell ⟨gb,5,none⟩ v').heap[b]? =W.heap[b]?:=fun b hb h0=>(hs.block b (kP hb hg.size) (ne_sm (by have:=h.ge;omega))).trans (hg.block b hb (fun e=>by have:=(zAE h.code e.symm).1;omega))
 refine⟨⟨?_,hr2,zAP h.names (fun q hq=>(hs.block q (kP (zAE h.names hq).2 hg.size) (ne_sm (fun e=>d2 (e▸hq)))).trans (hg.block q (zAE h.names hq).2 (fun e=>(fun e=>(d4 q e).1 hq) e.symm))),zAP h.vars (fun q hq=>(hs.block q (kP (zAE h.vars hq).2 hg.size) (ne_sm (fun e=>d3 (e▸hq)))).trans (hg.block q (zAE h.vars hq).2 (fun e=>(fun e=>(d4 q e).2 hq) e.symm))),hnd,h.ge,h.ns,h.vs,h.pc.inc (zCF (kG hg.size hs.size) hlo),h.fc.inc (zCF (kG hg.size hs.size) hlo)⟩,⟨hs.os.trans hg.os,hs.tape.trans hg.tape,hs.output.trans hg.output,kG hg.size hs.size,fun b hb hn=>?_,fun b hb=>?_⟩⟩
 ·exact Pw.heap_set (j:=5) v' hb1
 ·exact(hs.block b (kP hb hg.size) (fun e=>hn (zZ.2 (.inl (by injection e))))).trans (hg.block b hb (fun e=>hn (zZ.2 (.inr (.inl e.symm)))))
 ·rcases zZ.1 hb with rfl|hb|hb|hb
  ·exact .inl (zZ.2 (.inl rfl))
  ·rcases hf with hf|hf
   ·exact .inl (zZ.2 (.inr (.inl (hf▸hb))))
   ·rw [hf] at hb;injection hb with hb
    exact .inr (by omega)
  ·exact .inl (zZ.2 (.inr (.inr (.inl hb))))
  ·exact .inl (zZ.2 (.inr (.inr (.inr hb))))
theorem GS.addName (h:GS B0 gb cs cl pv fv mv g cv nv vv W) {x:BA} {v':Value} (hr:W'.ownsRow B0 9 1 v' (g.names++ [x]).length (flatV nCells (g.names++ [x]))) (hg:W.grownBy W' nv.ownBlock) (hf:v'.ownBlock=nv.ownBlock\/v'.ownBlock=some W.heap.size) (hx:x.size<=maxLen):
 GS B0 gb cs cl pv fv mv { g with names:=g.names++ [x] } cv v' vv (W'.setCell ⟨gb,6,none⟩ v')/\Gr W (owl gb cv nv vv) (W'.setCell ⟨gb,6,none⟩ v') (owl gb cv v' vv):=by
 obtain⟨⟨d1,d2,d3⟩,d4,d5⟩:=zB3.1 h.nd;have hs:=zW W' gb 6 v';have hlt:=h.ol;have hgb:=lt_of_block h.blk;have hb1:W'.heap[gb]? =_:=gr_at hg h.blk (fun e=>d2 e.symm);have hne:∀q,v'.ownBlock=some q->q≠gb:=fun q hq e=>by
  subst e;rcases hf with hf|hf
  ·exact d2 (hf▸hq)
  ·rw [hf] at hq;injection hq with hq
   omega
 have hr2:(W'.setCell ⟨gb,6,none⟩ v').ownsRow B0 9 1 v' (g.names++ [x]).length (flatV nCells (g.names++ [x])):=zAP hr (fun q hq=>hs.block q (zAE hr hq).2 (ne_sm (hne q hq)));have hnd:(owl gb cv v' vv).Nodup:=by
  rw [zB3];have hfr:∀q,v'.ownBlock=some q->q<W.heap.size->nv.ownBlock=some q:=fun q hq hl=>by
   rcases hf with hf|hf
   ·exact hf▸hq
   ·rw [hf] at hq;injection hq with hq
    omega
  refine⟨⟨d1,fun e=>hne gb e rfl,d3⟩,fun q hq=>⟨fun e=>?_,(d4 q hq).2⟩,fun q hq e=>?_⟩
  ·exact(d4 q hq).1 (hfr q e (zAE h.code hq).2)
  ·exact d5 q (hfr q hq (zAE h.vars e).2) e
 have hlo:∀b,b<W.heap.size->b<B0->(W'.setCell ⟨gb,6,none⟩ v').heap[b]? =W.heap[b]?:=fun b hb h0=>(hs.block b (kP hb hg.size) (ne_sm (by have:=h.ge;omega))).trans (hg.block b hb (fun e=>by have:=(zAE h.names e.symm).1;omega))
 refine⟨⟨?_,zAP h.code (fun q hq=>(hs.block q (kP (zAE h.code hq).2 hg.size) (ne_sm (fun e=>d1 (e▸hq)))).trans (hg.block q (zAE h.code hq).2 (fun e=>(fun e=>(d4 q hq).1 e) e.symm))),hr2,zAP h.vars (fun q hq=>(hs.block q (kP (zAE h.vars hq).2 hg.size) (ne_sm (fun e=>d3 (e▸hq)))).trans (hg.block q (zAE h.vars hq).2 (fun e=>(fun e=>d5 q e hq) e.symm))),hnd,h.ge,fun s hs=>by rcases kU.1 hs with hs|hs;exact h.ns s hs;rw [kT.1 hs];exact hx,h.vs,h.pc.inc (zCF (kG hg.size hs.size) hlo),h.fc.inc (zCF (kG hg.size hs.size) hlo)⟩,⟨hs.os.trans hg.os,hs.tape.trans hg.tape,hs.output.trans hg.output,kG hg.size hs.size,fun b hb hn=>?_,fun b hb=>?_⟩⟩
 ·exact Pw.heap_set (j:=6) v' hb1
 ·exact(hs.block b (kP hb hg.size) (fun e=>hn (zZ.2 (.inl (by injection e))))).trans (hg.block b hb (fun e=>hn (zZ.2 (.inr (.inr (.inl e.symm))))))
 ·rcases zZ.1 hb with rfl|hb|hb|hb
  ·exact .inl (zZ.2 (.inl rfl))
  ·exact .inl (zZ.2 (.inr (.inl hb)))
  ·rcases hf with hf|hf
   ·exact .inl (zZ.2 (.inr (.inr (.inl (hf▸hb)))))
   ·rw [hf] at hb;injection hb with hb
    exact .inr (by omega)
  ·exact .inl (zZ.2 (.inr (.inr (.inr hb))))
theorem GS.addVar (h:GS B0 gb cs cl pv fv mv g cv nv vv W) {x:BA × Nat} {v':Value} (hr:W'.ownsRow B0 106 2 v' (g.vars++ [x]).length (flatV zBF (g.vars++ [x]))) (hg:W.grownBy W' vv.ownBlock) (hf:v'.ownBlock=vv.ownBlock\/v'.ownBlock=some W.heap.size) (hx:x.1.size<=maxLen):
 GS B0 gb cs cl pv fv mv { g with vars:=g.vars++ [x] } cv nv v' (W'.setCell ⟨gb,7,none⟩ v')/\Gr W (owl gb cv nv vv) (W'.setCell ⟨gb,7,none⟩ v') (owl gb cv nv v'):=by
 obtain⟨⟨d1,d2,d3⟩,d4,d5⟩:=zB3.1 h.nd;have hs:=zW W' gb 7 v';have hlt:=h.ol;have hgb:=lt_of_block h.blk;have hb1:W'.heap[gb]? =_:=gr_at hg h.blk (fun e=>d3 e.symm);have hne:∀q,v'.ownBlock=some q->q≠gb:=fun q hq e=>by
  subst e;rcases hf with hf|hf
  ·exact d3 (hf▸hq)
  ·rw [hf] at hq;injection hq with hq
   omega
 have hr2:(W'.setCell ⟨gb,7,none⟩ v').ownsRow B0 106 2 v' (g.vars++ [x]).length (flatV zBF (g.vars++ [x])):=zAP hr (fun q hq=>hs.block q (zAE hr hq).2 (ne_sm (hne q hq)));have hnd:(owl gb cv nv v').Nodup:=by
  rw [zB3];have hfr:∀q,v'.ownBlock=some q->q<W.heap.size->vv.ownBlock=some q:=fun q hq hl=>by
   rcases hf with hf|hf
   ·exact hf▸hq
   ·rw [hf] at hq;injection hq with hq
    omega
  refine⟨⟨d1,d2,fun e=>hne gb e rfl⟩,fun q hq=>⟨(d4 q hq).1,fun e=>?_⟩,fun q hq e=>?_⟩
  ·exact(d4 q hq).2 (hfr q e (zAE h.code hq).2)
  ·exact d5 q hq (hfr q e (zAE h.names hq).2)
 have hlo:∀b,b<W.heap.size->b<B0->(W'.setCell ⟨gb,7,none⟩ v').heap[b]? =W.heap[b]?:=fun b hb h0=>(hs.block b (kP hb hg.size) (ne_sm (by have:=h.ge;omega))).trans (hg.block b hb (fun e=>by have:=(zAE h.vars e.symm).1;omega))
 refine⟨⟨?_,zAP h.code (fun q hq=>(hs.block q (kP (zAE h.code hq).2 hg.size) (ne_sm (fun e=>d1 (e▸hq)))).trans (hg.block q (zAE h.code hq).2 (fun e=>(fun e=>(d4 q hq).2 e) e.symm))),zAP h.names (fun q hq=>(hs.block q (kP (zAE h.names hq).2 hg.size) (ne_sm (fun e=>d2 (e▸hq)))).trans (hg.block q (zAE h.names hq).2 (fun e=>(fun e=>d5 q hq e) e.symm))),hr2,hnd,h.ge,h.ns,fun s hs=>by rcases kU.1 hs with hs|hs;exact h.vs s hs;rw [kT.1 hs];exact hx,h.pc.inc (zCF (kG hg.size hs.size) hlo),h.fc.inc (zCF (kG hg.size hs.size) hlo)⟩,⟨hs.os.trans hg.os,hs.tape.trans hg.tape,hs.output.trans hg.output,kG hg.size hs.size,fun b hb hn=>?_,fun b hb=>?_⟩⟩
 ·exact Pw.heap_set (j:=7) v' hb1
 ·exact(hs.block b (kP hb hg.size) (fun e=>hn (zZ.2 (.inl (by injection e))))).trans (hg.block b hb (fun e=>hn (zZ.2 (.inr (.inr (.inr e.symm))))))
 ·rcases zZ.1 hb with rfl|hb|hb|hb
  ·exact .inl (zZ.2 (.inl rfl))
  ·exact .inl (zZ.2 (.inr (.inl hb)))
  ·exact .inl (zZ.2 (.inr (.inr (.inl hb))))
  ·rcases hf with hf|hf
   ·exact .inl (zZ.2 (.inr (.inr (.inr (hf▸hb)))))
   ·rw [hf] at hb;injection hb with hb
    exact .inr (by omega)
end
def GQ (B0 gb:Nat) (cs:List Tr.C) (cl:Tr.C) (pv fv mv:Value) (g':Co.G) (cv nv vv:Value) (w:World) (e:Ending) (w':World):Prop:=
 e= .returned (.tuple #[])/\∃cv' nv' vv',GS B0 gb cs cl pv fv mv g' cv' nv' vv' w'/\Gr w (owl gb cv nv vv) w' (owl gb cv' nv' vv')
abbrev Mg (B0 gb:Nat) (cs:List Tr.C) (cl:Tr.C) (pv fv mv:Value) (w:World) (o0:List Nat) (g:Co.G) (cv nv vv:Value) (bs:List Bk) (os:List (World->Prop)) (W:World):Prop:=Mz B0 0 w o0 (GS B0 gb cs cl pv fv mv g cv nv vv) (owl gb cv nv vv) bs os W
section
variable {B0 gb:Nat} {cs:List Tr.C} {cl:Tr.C} {pv fv mv:Value} {g g':Co.G} {cv nv vv cv' nv' vv':Value} {w W W':World} {o0:List Nat} {bs:List Bk} {os:List (World->Prop)}
theorem Mg.start {os:List (World->Prop)} (h:GS B0 gb cs cl pv fv mv g cv nv vv w) (hB:B0<=w.heap.size) (ro:∀r∈os,Mn r/\r (hide (upL 0 (owl gb cv nv vv)) w)):Mg B0 gb cs cl pv fv mv w (owl gb cv nv vv) g cv nv vv [] os w:=
 Mz.start h (fun hs hk hq=>hq.keep hs hk) hB (kO _) h.ol ro
theorem Mg.move (h:Mg B0 gb cs cl pv fv mv w o0 g cv nv vv bs os W) (hq:GS B0 gb cs cl pv fv mv g' cv' nv' vv' W') (hg:Gr W (owl gb cv nv vv) W' (owl gb cv' nv' vv')):Mg B0 gb cs cl pv fv mv w o0 g' cv' nv' vv' bs os W':=
 h.call hg hq.ol hq (fun hs hk hq=>hq.keep hs hk)
theorem Mg.done (h:Mg B0 gb cs cl pv fv mv w o0 g cv nv vv bs os W) {e:Ending} (hp:GQ B0 gb cs cl pv fv mv g' cv nv vv W e W'):e= .returned (.tuple #[])/\∃cv' nv' vv',Hid (Mg B0 gb cs cl pv fv mv w o0 g' cv' nv' vv' bs os W'):=by
 obtain⟨he,c,n,v,h1,h2⟩:=hp;exact⟨he,c,n,v,zh (Mg.move h h1 h2)⟩
theorem Mg.fin (h:Mg B0 gb cs cl pv fv mv w (owl gb cv nv vv) g' cv' nv' vv' bs os W):GQ B0 gb cs cl pv fv mv g' cv nv vv w (.returned (.tuple #[])) W:=⟨rfl,_,_,_,h.q,h.gr⟩
end
end Cw
end
section
namespace Cw
open Go.RowKit Go.Maps Pw
theorem instrInfo:(prog.info? 65).map (fun i=>(i.zero,i.size,i.bytes))=some (some (.agg #[.int .i64 0,.int .i64 0,.int .i64 0]),3,24):=by kernel_rfl
theorem varInfo:(prog.info? 106).map (fun i=>(i.zero,i.size,i.bytes))=some (some (.agg #[.string ⟨#[]⟩,.int .i64 0]),2,24):=by kernel_rfl
theorem zA0 {B0 gb:Nat} {cs:List Tr.C} {cl:Tr.C} {pv fv mv:Value} {g:Co.G} {cv nv vv:Value} {w:World} (h:GS B0 gb cs cl pv fv mv g cv nv vv w) {j:Nat} {u:Value} (hu:(#[pv,.string cl.name,.bool cl.actor,fv,mv,cv,nv,vv,.int .i64 g.locals,.int .i64 g.depth,.int .i64 g.most,.bool g.large]:Array Value)[j]? =some u):w.cell? ⟨gb,j,none⟩=some u:=zB h.blk hu
theorem gfree {B0 gb:Nat} {cs:List Tr.C} {cl:Tr.C} {pv fv mv:Value} {g:Co.G} {cv nv vv:Value} {w:World} (h:GS B0 gb cs cl pv fv mv g cv nv vv w) (j:Nat):w.frozen? ⟨gb,j,none⟩=false:=zP h.blk j
theorem zBC {W:World} {X b j k:Nat} {u:Value} (h:X≠b):(W.setCell ⟨b,j,none⟩ u).cell? ⟨X,k,none⟩=W.cell? ⟨X,k,none⟩:=by
 have h1:=(zW W b j u);have h2:(W.setCell ⟨b,j,none⟩ u).heap[X]? =W.heap[X]?:=heap_setCell_other W ⟨b,j,none⟩ X u h;unfold World.cell?;rw [h2]
theorem zHB {W:World} {b j k:Nat} {u:Value} (h:j≠k):(W.setCell ⟨b,j,none⟩ u).cell? ⟨b,k,none⟩=W.cell? ⟨b,k,none⟩:=World.cell?_setCell_other (w:=W) (a:=⟨b,j,none⟩) (b:=⟨b,k,none⟩) (v:=u) (fun e=>h (by injection e))
theorem zQX {B0 gb:Nat} {cs:List Tr.C} {cl:Tr.C} {pv fv mv:Value} {g:Co.G} {cv nv vv:Value} {w:World} (h:GS B0 gb cs cl pv fv mv g cv nv vv w) (hB:B0<=w.heap.size) {n:Nat} (hbd:Co.Bd n g/\n<=900000) (o a b p q:Int) (hp:0<=p/\p<=1000000) (hq:0<=q/\q<=1000000):
 Calls prog 91 #[.pointer (some ⟨gb,0,none⟩),.agg #[.int .i64 o,.int .i64 a,.int .i64 b],.int .i64 p,.int .i64 q] w (GQ B0 gb cs cl pv fv mv (Co.emit g o a b p q) cv nv vv w):=by
 obtain⟨i0,hi0,hz0,hz1,hz2⟩:=info_parts instrInfo;have HBD:=zh hbd;have HP:=zh hp;have HQ:=zh hq;have C0:=zh (Mg.start (os:= []) h hB (fun _ h=>by cases h));clear h hB hbd hp hq;obtain⟨X,w1,HX1,HW1,hx1,C1⟩:=C0.boxE #[.int .i64 o,.int .i64 a,.int .i64 b] 65;go_in;go_upto_region 1 with fail;rw [<-HX1.out,<-HW1.out];clear HX1 HW1 C0;obtain⟨wd,HWD,CD⟩:=C1.drewE;obtain⟨lx,x0,xf0,x1,xf1,x2,xf2⟩:=cells3 (CD.b 0 rfl);have y0:=zh x0;have y1:=zh x1;have y2:=zh x2;clear x0 xf0 x1 xf1 x2 xf2;refine wp_region_held_drew (S:=fun W=>W.cell? ⟨X,0,none⟩=some (.int .i64 o)/\W.cell? ⟨X,1,none⟩=some (.int .i64 a)/\W.cell? ⟨X,2,none⟩=some (.int .i64 b)) (by kernel_rfl) (by rw [<-HWD.out];exact⟨y0,y1,y2⟩) (fun hH=>?_);rw [<-HWD.out] at hH |-;clear HWD C1;refine rU 0 (some 8) ?_;refine rU 1 (some 9) ?_;refine rU 2 (some 10) ?_;refine rU 3 (some 11) ?_;refine rU 5 (some 13) ?_;have hHeld2:=zh hH;have HXN:Hid (X≠gb):=zh (fun e=>(CD.lts (q:=X) (by simp)).2.2 (zZ.2 (.inl e)));refine rR2 4 (some 12) 6 (some 14) (fun K hK=>?_) (fun K hK=>?_)
 ·have gl:=lt_of_block CD.q.blk;have g5:=zA0 CD.q (j:=5) rfl;have gf5:=gfree CD.q 5;go_simp;refine hK _ _ hHeld2 (fun hH=>?_);clear hK K
  try simp only [Act.put,q0,q1,q2]
  clear gl g5 gf5;refine rR1 6 (some 14) (fun K hK=>?_);obtain⟨G,wg,HG,HWG,hxg,CG⟩:=CD.boxE #[.int .i64 o,.int .i64 a,.int .i64 b] 65;go_simp;refine hK _ _ ⟨zA (zD wd _) hHeld2.1,zA (zD wd _) hHeld2.2.1,zA (zD wd _) hHeld2.2.2⟩ (fun hH=>?_);clear hK K
  try simp only [Act.put,q0,q1,q2]
  rw [<-HG.out,<-HWG.out];rw [<-HWG.out] at hH;clear HG HWG CD hHeld2;have hHeld2:=zh hH;refine rR1 7 (some 15) (fun K hK=>?_);clear hH;refine zFB zBW rfl _ _ 57 rfl i0 (.agg #[.int .i64 0,.int .i64 0,.int .i64 0]) 24 underlying57 hi0 hz0 hz1 hz2 rfl (by decide) rfl CG.q.code G #[.int .i64 o,.int .i64 a,.int .i64 b] (o,a,b) rfl (CG.b 0 rfl) rfl (zDC _) (by have:=HBD.1.code;have:=HBD.2;unfold maxLen;omega) (by have:=HBD.1.code;have:=HBD.2;omega) (kG CG.hB CG.le) ?_;intro v' wa hr9 hg9 hf9;obtain⟨h1,h2⟩:=CG.q.addCode hr9 hg9 hf9;have CA:=zh (Mg.move CG h1 h2);obtain⟨pc,cc,hv'⟩:=own_form hr9;have HS9:Hid (wa.cell? ⟨X,0,none⟩=some (.int .i64 o)/\wa.cell? ⟨X,1,none⟩=some (.int .i64 a)/\wa.cell? ⟨X,2,none⟩=some (.int .i64 b)):=zh (by
   have hxn:some X≠cv.ownBlock:=fun e=>(CG.lts (q:=X) (by simp)).2.2 (zZ.2 (.inr (.inl e.symm)))
   have hx9:=gr_at hg9 (CG.b 1 rfl) hxn;exact⟨zB hx9 (j:=0) rfl,zB hx9 (j:=1) rfl,zB hx9 (j:=2) rfl⟩)
  have hb9:=gr_at hg9 CG.q.blk (fun e=>(zB3.1 CG.q.nd).1.1 e.symm);have gl:=lt_of_block hb9;have g5:=zB hb9 (j:=5) (u:=cv) rfl;have gf5:=zP hb9 5;subst hv';clear h1 h2 hr9 hg9 hf9 hb9 CG;refine hK _ _ HS9 (fun hH=>?_);clear hK K
  try simp only [Act.put,q0,q1,q2]
  refine rU 8 (some 16) ?_;refine rU 9 (some 17) ?_;refine rR1 10 none (fun K hK=>?_);go_simp;refine hK _ _ ?_ (fun _=>?_)
  ·exact⟨by rw [zBC HXN.out];exact HS9.1,by rw [zBC HXN.out];exact HS9.2.1,by rw [zBC HXN.out];exact HS9.2.2⟩
  clear hK K
  try simp only [Act.put,q0,q1,q2]
  refine wpAnyH_done (by kernel_rfl) ?_ _;clear g5 gf5 gl HS9 y0 y1 y2;obtain⟨wb,HWB⟩:∃wq,Hid (wq=wa.setCell ⟨gb,5,none⟩ (.slice pc (g.code.length+1) cc)):=⟨_,zh rfl⟩;have hl9:(g.code++ [(o,a,b)]).length=g.code.length+1:=(by simp);rw [hl9,<-HWB.out] at CA;rw [<-HWB.out];clear HWB hl9;have gq:=CA.q;have gl:=lt_of_block gq.blk;have g9:=zA0 gq (j:=9) (u:= .int .i64 g.depth) rfl;have gf9:=gfree gq 9;have hdb:=HBD.1.dep;have hnn:=HBD.2;have hp1:=HP.out;have hq1:=HQ.out;have hw1:wrap64 (q -p)=q -p:=by unfold wrap64;omega
  have hw2:wrap64 (g.depth+(q -p))=g.depth+(q -p):=by unfold wrap64;omega
  obtain⟨h1,h2⟩:=gq.put 9 (.int .i64 (g.depth+(q -p))) (g':= { { g with code:=g.code++ [(o,a,b)] } with depth:=g.depth+(q -p) }) rfl rfl rfl rfl;obtain⟨wz,HWZ⟩:∃wq,Hid (wq=wb.setCell ⟨gb,9,none⟩ (.int .i64 (g.depth+(q -p)))):=⟨_,zh rfl⟩;have CZ:=zh (Mg.move CA h1 h2);rw [<-HWZ.out] at CZ;clear h1 h2 gq hdb hnn hp1 hq1;go_upto_region 3 with fail;rw [<-HWZ.out];clear HWZ CA gl g9 gf9 hw1 hw2;obtain⟨wy,HWY,CY⟩:=CZ.drewE;have z9:=zh (zA0 CY.q (j:=9) (u:= .int .i64 (g.depth+(q -p))) rfl);refine wp_region_held_drew (S:=fun W=>W.cell? ⟨gb,9,none⟩=some (.int .i64 (g.depth+(q -p)))) (by kernel_rfl) (by rw [<-HWY.out];exact z9) (fun hH=>?_);rw [<-HWY.out] at hH |-;clear HWY CZ;refine rU 0 (some 28) ?_;refine rU 1 (some 29) ?_;refine rU 2 (some 30) ?_;refine rU 3 (some 31) ?_;refine rU 5 (some 33) ?_;refine rU 6 (some 34) ?_;refine rU 7 (some 35) ?_;refine rU 8 (some 36) ?_;refine rR1 4 (some 32) (fun K hK=>?_);have gl:=lt_of_block CY.q.blk;have g10:=zA0 CY.q (j:=10) (u:= .int .i64 g.most) rfl;have gf10:=gfree CY.q 10;go_simp;refine hK _ _ hH (fun hH=>?_);clear hK K
  try simp only [Act.put,q0,q1,q2]
  refine rR1 9 (some 37) (fun K hK=>?_);go_simp;refine hK _ _ hH (fun hH=>?_);clear hK K
  try simp only [Act.put,q0,q1,q2]
  refine rU 10 (some 38) ?_;refine rU 11 (some 39) ?_;obtain⟨h1,h2⟩:=CY.q.put 10 (.int .i64 (max g.most (g.depth+(q -p)))) (g':= { { g with code:=g.code++ [(o,a,b)] } with depth:=g.depth+(q -p),most:=max g.most (g.depth+(q -p)) }) rfl rfl rfl rfl;have CX:=zh (Mg.move CY h1 h2);clear h1 h2;refine rR1 12 none (fun K hK=>?_);go_simp;refine hK _ _ (by rw [zHB (by decide)];exact hH) (fun _=>?_);clear hK K
  try simp only [Act.put,q0,q1,q2]
  refine wpAnyH_done (by kernel_rfl) ?_ _;go_wp2_with fail;go_end0;have he:Co.emit g o a b p q= { { g with code:=g.code++ [(o,a,b)] } with depth:=g.depth+(q -p),most:=max g.most (g.depth+(q -p)) }:=by
   unfold Co.emit;have e1:g.depth -p+q=g.depth+(q -p):=(by omega);rw [e1]
  rw [he];exact Mg.fin CX.out
 ·obtain⟨G,wg,HG,HWG,hxg,CG⟩:=CD.boxE #[.int .i64 o,.int .i64 a,.int .i64 b] 65;go_simp;refine hK _ _ ⟨zA (zD wd _) hHeld2.1,zA (zD wd _) hHeld2.2.1,zA (zD wd _) hHeld2.2.2⟩ (fun hH=>?_);clear hK K
  try simp only [Act.put,q0,q1,q2]
  rw [<-HG.out,<-HWG.out];rw [<-HWG.out] at hH;clear HG HWG CD hHeld2;have hHeld2:=zh hH;refine rR1 4 (some 12) (fun K hK=>?_);have gl:=lt_of_block CG.q.blk;have g5:=zA0 CG.q (j:=5) rfl;have gf5:=gfree CG.q 5;go_simp;refine hK _ _ hHeld2 (fun hH=>?_);clear hK K
  try simp only [Act.put,q0,q1,q2]
  clear gl g5 gf5;refine rR1 7 (some 15) (fun K hK=>?_);clear hH;refine zFB zBW rfl _ _ 57 rfl i0 (.agg #[.int .i64 0,.int .i64 0,.int .i64 0]) 24 underlying57 hi0 hz0 hz1 hz2 rfl (by decide) rfl CG.q.code G #[.int .i64 o,.int .i64 a,.int .i64 b] (o,a,b) rfl (CG.b 0 rfl) rfl (zDC _) (by have:=HBD.1.code;have:=HBD.2;unfold maxLen;omega) (by have:=HBD.1.code;have:=HBD.2;omega) (kG CG.hB CG.le) ?_;intro v' wa hr9 hg9 hf9;obtain⟨h1,h2⟩:=CG.q.addCode hr9 hg9 hf9;have CA:=zh (Mg.move CG h1 h2);obtain⟨pc,cc,hv'⟩:=own_form hr9;have HS9:Hid (wa.cell? ⟨X,0,none⟩=some (.int .i64 o)/\wa.cell? ⟨X,1,none⟩=some (.int .i64 a)/\wa.cell? ⟨X,2,none⟩=some (.int .i64 b)):=zh (by
   have hxn:some X≠cv.ownBlock:=fun e=>(CG.lts (q:=X) (by simp)).2.2 (zZ.2 (.inr (.inl e.symm)))
   have hx9:=gr_at hg9 (CG.b 1 rfl) hxn;exact⟨zB hx9 (j:=0) rfl,zB hx9 (j:=1) rfl,zB hx9 (j:=2) rfl⟩)
  have hb9:=gr_at hg9 CG.q.blk (fun e=>(zB3.1 CG.q.nd).1.1 e.symm);have gl:=lt_of_block hb9;have g5:=zB hb9 (j:=5) (u:=cv) rfl;have gf5:=zP hb9 5;subst hv';clear h1 h2 hr9 hg9 hf9 hb9 CG;refine hK _ _ HS9 (fun hH=>?_);clear hK K
  try simp only [Act.put,q0,q1,q2]
  refine rU 8 (some 16) ?_;refine rU 9 (some 17) ?_;refine rR1 10 none (fun K hK=>?_);go_simp;refine hK _ _ ?_ (fun _=>?_)
  ·exact⟨by rw [zBC HXN.out];exact HS9.1,by rw [zBC HXN.out];exact HS9.2.1,by rw [zBC HXN.out];exact HS9.2.2⟩
  clear hK K
  try simp only [Act.put,q0,q1,q2]
  refine wpAnyH_done (by kernel_rfl) ?_ _;clear g5 gf5 gl HS9 y0 y1 y2;obtain⟨wb,HWB⟩:∃wq,Hid (wq=wa.setCell ⟨gb,5,none⟩ (.slice pc (g.code.length+1) cc)):=⟨_,zh rfl⟩;have hl9:(g.code++ [(o,a,b)]).length=g.code.length+1:=(by simp);rw [hl9,<-HWB.out] at CA;rw [<-HWB.out];clear HWB hl9;have gq:=CA.q;have gl:=lt_of_block gq.blk;have g9:=zA0 gq (j:=9) (u:= .int .i64 g.depth) rfl;have gf9:=gfree gq 9;have hdb:=HBD.1.dep;have hnn:=HBD.2;have hp1:=HP.out;have hq1:=HQ.out;have hw1:wrap64 (q -p)=q -p:=by unfold wrap64;omega
  have hw2:wrap64 (g.depth+(q -p))=g.depth+(q -p):=by unfold wrap64;omega
  obtain⟨h1,h2⟩:=gq.put 9 (.int .i64 (g.depth+(q -p))) (g':= { { g with code:=g.code++ [(o,a,b)] } with depth:=g.depth+(q -p) }) rfl rfl rfl rfl;obtain⟨wz,HWZ⟩:∃wq,Hid (wq=wb.setCell ⟨gb,9,none⟩ (.int .i64 (g.depth+(q -p)))):=⟨_,zh rfl⟩;have CZ:=zh (Mg.move CA h1 h2);rw [<-HWZ.out] at CZ;clear h1 h2 gq hdb hnn hp1 hq1;go_upto_region 3 with fail;rw [<-HWZ.out];clear HWZ CA gl g9 gf9 hw1 hw2;obtain⟨wy,HWY,CY⟩:=CZ.drewE;have z9:=zh (zA0 CY.q (j:=9) (u:= .int .i64 (g.depth+(q -p))) rfl);refine wp_region_held_drew (S:=fun W=>W.cell? ⟨gb,9,none⟩=some (.int .i64 (g.depth+(q -p)))) (by kernel_rfl) (by rw [<-HWY.out];exact z9) (fun hH=>?_);rw [<-HWY.out] at hH |-;clear HWY CZ;refine rU 0 (some 28) ?_;refine rU 1 (some 29) ?_;refine rU 2 (some 30) ?_;refine rU 3 (some 31) ?_;refine rU 5 (some 33) ?_;refine rU 6 (some 34) ?_;refine rU 7 (some 35) ?_;refine rU 8 (some 36) ?_;refine rR1 4 (some 32) (fun K hK=>?_);have gl:=lt_of_block CY.q.blk;have g10:=zA0 CY.q (j:=10) (u:= .int .i64 g.most) rfl;have gf10:=gfree CY.q 10;go_simp;refine hK _ _ hH (fun hH=>?_);clear hK K
  try simp only [Act.put,q0,q1,q2]
  refine rR1 9 (some 37) (fun K hK=>?_);go_simp;refine hK _ _ hH (fun hH=>?_);clear hK K
  try simp only [Act.put,q0,q1,q2]
  refine rU 10 (some 38) ?_;refine rU 11 (some 39) ?_;obtain⟨h1,h2⟩:=CY.q.put 10 (.int .i64 (max g.most (g.depth+(q -p)))) (g':= { { g with code:=g.code++ [(o,a,b)] } with depth:=g.depth+(q -p),most:=max g.most (g.depth+(q -p)) }) rfl rfl rfl rfl;have CX:=zh (Mg.move CY h1 h2);clear h1 h2;refine rR1 12 none (fun K hK=>?_);go_simp;refine hK _ _ (by rw [zHB (by decide)];exact hH) (fun _=>?_);clear hK K
  try simp only [Act.put,q0,q1,q2]
  refine wpAnyH_done (by kernel_rfl) ?_ _;go_wp2_with fail;go_end0;have he:Co.emit g o a b p q= { { g with code:=g.code++ [(o,a,b)] } with depth:=g.depth+(q -p),most:=max g.most (g.depth+(q -p)) }:=by
   unfold Co.emit;have e1:g.depth -p+q=g.depth+(q -p):=(by omega);rw [e1]
  rw [he];exact Mg.fin CX.out
theorem zAO {B0 gb:Nat} {cs:List Tr.C} {cl:Tr.C} {pv fv mv:Value} {g:Co.G} {cv nv vv:Value} {w:World} (h:GS B0 gb cs cl pv fv mv g cv nv vv w) (hB:B0<=w.heap.size) {n:Nat} (hbd:Co.Bd n g/\n<=900000) (o a b p q:Int) (hp:0<=p/\p<=1000000) (hq:0<=q/\q<=1000000):
 Calls prog 57 #[.pointer (some ⟨gb,0,none⟩),.int .i64 o,.int .i64 a,.int .i64 b,.int .i64 p,.int .i64 q] w (GQ B0 gb cs cl pv fv mv (Co.emit g o a b p q) cv nv vv w):=by
 have K:=zh (zQX h hB hbd o a b p q hp hq);clear h hB hbd hp hq;go_in;go_wp2_with fail;refine K.mono ?_;rintro e w2 ⟨rfl,h⟩;go_wp2_with fail;go_end0;exact⟨rfl,h⟩
end Cw
end
section
open Go.RowKit
def ReadM (W:World) (x:Tr.M) (a1 a2:Value):Prop:=x.name.size<=maxLen/\SlStr W a1 x.params/\SlS W a2 x.body
theorem ReadM.keep {w w':World} {x:Tr.M} {a1 a2:Value} (h:ReadM w x a1 a2) (hb:Below w.heap.size w w'):ReadM w' x a1 a2:=⟨h.1,h.2.1.keep hb,h.2.2.keep hb⟩
def HoldsM (w:World) (q:Tr.M->Bool) (l:List Tr.M):Prop:=
 ∀(W:World) (j:Nat) (x:Tr.M) (a1 a2:Value),Below w.heap.size w W->l[j]? =some x->ReadM W x a1 a2->Calls prog 76 #[methV x a1 a2] W fun e w'=>e= .returned (.bool (q x))/\Below W.heap.size W w'
theorem zSP (q:Tr.M->Bool) (w0:World) (l:List Tr.M) (H:HoldsM w0 q l) (B:Nat) (W:World) (hW:Below w0.heap.size w0 W) (hB:W.cell? ⟨B,0,none⟩=some (.func (.func 76) #[] #[]))
 (j:Nat) (x:Tr.M) (a1 a2:Value) (hx:l[j]? =some x) (h:ReadM W x a1 a2):
 Calls prog 122 #[methV x a1 a2,.pointer (some ⟨B,0,none⟩)] W fun e w'=>e= .returned (.bool (!q x))/\Below W.heap.size W w':=by
 have HR:=zh h;obtain⟨pa,ca,rfl⟩:=h.2.1.form;obtain⟨pb,cb,rfl,_⟩:=h.2.2.form;obtain⟨AN,hAN⟩:∃N,x.params.length=N:=⟨_,rfl⟩;obtain⟨BN,hBN⟩:∃N,x.body.length=N:=⟨_,rfl⟩;rw [hAN,hBN];rw [hAN,hBN] at HR;unfold methV;have hbx:=zD W (.cells #[.string x.name,.slice pa AN ca,.slice pb BN cb] 62);have hcall:=H _ j x _ _ (zC hW hbx) hx (HR.keep hbx);unfold methV at hcall;have HC:=zh hcall;have HBX:=zh hbx;have hB':=zA hbx hB;clear h hcall hbx H;go_in;go_wp2_with fail;refine HC.mono ?_;rintro e w2 ⟨rfl,hb2⟩;go_wp2;go_ret;exact⟨rfl,HBX.trans (hb2.mono HBX.size)⟩
theorem zPC (q:Tr.M->Bool) (w0:World) (l:List Tr.M) (H:HoldsM w0 q l) (B:Nat) (W:World) (hW:Below w0.heap.size w0 W) (hB:W.cell? ⟨B,0,none⟩=some (.func (.func 76) #[] #[])) (v:Value) (hS:SlM W v l):
 Calls prog 125 #[v,.func (.func 122) #[] #[.pointer (some ⟨B,0,none⟩)]] W (IdxPost (!l.all q) W):=by
 obtain⟨p,c,rfl⟩:=hS.form;have hll:=hS.len;unfold maxLen at hll;obtain⟨N,hN⟩:∃N,l.length=N:=⟨_,rfl⟩;rw [hN] at hS hll |-;have HS:=zh hS;have HN:=zh hN;have HH:=zh H;have HW:=zh hW;clear hS hN H hW;go_in;go_wp2
 go_loopw [8] (fun s8 wr=>∃j:Nat,s8= .int .i64 j/\j<=N/\(∀t x,t<j->l[t]? =some x->q x=true)/\Below W.heap.size W wr) (fun s8 _=>N -(intOf s8).toNat)
 case atStart=>exact ⟨0,rfl,kO _,fun t x ht=>by omega,Below.refl _ _⟩
 case round=>
  obtain⟨j,rfl,hj,hall,hbr⟩:=hrel;have HA:=zh hall;have HBR:=zh hbr;have HB1:=zh (zA hbr hB);clear hall;by_cases hlt:j<N
  ·obtain⟨x,hx⟩:∃x,l[j]? =some x:=⟨_,kB (by rw [HN.out];exact hlt)⟩;obtain⟨b,oo,a1,a2,rfl,_,hc,hnm,hsp,hsb⟩:=(HS.keep hbr).get hx;obtain⟨x0,x1,x2⟩:=hc;have hr:ReadM wr x a1 a2:=⟨hnm,hsp,hsb⟩;have hcall:=zSP q w0 l HH B wr (zC HW HBR) HB1 j x _ _ hx hr;unfold methV at hcall;have HX:=zh hx;clear hx hr hbr hnm hsp hsb;cases hv:q x
   ·rw [hv] at hcall;have HCL:=zh hcall;have hf:=zh (zES HX hv);clear hcall hv;go_wp2_with fail;refine HCL.mono ?_;rintro e w2 ⟨rfl,hb2⟩;go_wp2;go_ret;exact⟨(j:Int),rfl,by rw [hf.out];simp,zC HBR hb2⟩
   ·rw [hv] at hcall;have HCL:=zh hcall;have HV:=zh hv;clear hcall hv;go_wp2_with fail;refine HCL.mono ?_;rintro e w2 ⟨rfl,hb2⟩;go_wp2_with fail;go_roundw
    case rel=>
     refine⟨j+1,by go_num,by omega,fun t y ht hty=>?_,zC HBR hb2⟩;by_cases e:t=j
     ·subst e;rw [HX.out] at hty;cases hty;exact HV
     ·exact HA t y (by omega) hty
    case measure=>simp [intOf];omega
  ·have hf:=zh (zCU HN (p:=q) (fun t x ht=>HA t x (by omega)));clear hbr;go_wp2;go_ret;exact⟨-1,rfl,by rw [hf.out];simp,HBR⟩
theorem zKN (q:Tr.M->Bool) (w0:World) (l:List Tr.M) (H:HoldsM w0 q l) (B:Nat) (W:World) (hW:Below w0.heap.size w0 W) (hB:W.cell? ⟨B,0,none⟩=some (.func (.func 76) #[] #[])) (v:Value) (hS:SlM W v l):
 Calls prog 121 #[v,.func (.func 122) #[] #[.pointer (some ⟨B,0,none⟩)]] W fun e w'=>e= .returned (.bool (!l.all q))/\Below W.heap.size W w':=by
 have HI:=zh (zPC q w0 l H B W hW hB v hS);obtain⟨p,c,rfl⟩:=hS.form;clear H hB hS hW;go_in;go_wp2_with fail;refine HI.mono ?_;rintro e w2 ⟨i,rfl,hi,hb⟩;have HII:=zh hi;clear hi;go_wp2;go_ret;exact⟨zBT HII,hb⟩
theorem zUA (q:Tr.M->Bool) (l:List Tr.M) (W:World) (H:HoldsM W q l) (v:Value) (hS:SlM W v l):
 Calls prog 82 #[v,.func (.func 76) #[] #[]] W fun e w'=>e= .returned (.bool (l.all q))/\Below W.heap.size W w':=by
 have hbx:=zD W (.cells #[.func (.func 76) #[] #[]] 137);have HI:=zh (zKN q W l H W.heap.size _ hbx (zJ W #[.func (.func 76) #[] #[]] 137 0 _ rfl) v (hS.keep hbx));have HBX:=zh hbx;obtain⟨p,c,rfl⟩:=hS.form;clear H hS hbx;go_in;go_wp2_with fail;refine HI.mono ?_;rintro e w2 ⟨rfl,hb⟩;go_wp2;go_ret;exact⟨rfl,HBX.trans (hb.mono HBX.size)⟩
def ReadC (W:World) (x:Tr.C) (a1 a2:Value):Prop:=x.name.size<=maxLen/\SlStr W a1 x.fields/\SlM W a2 x.methods
theorem ReadC.keep {w w':World} {x:Tr.C} {a1 a2:Value} (h:ReadC w x a1 a2) (hb:Below w.heap.size w w'):ReadC w' x a1 a2:=⟨h.1,h.2.1.keep hb,h.2.2.keep hb⟩
def HoldsC (VB:Nat) (w:World) (q:Tr.C->Bool) (l:List Tr.C):Prop:=
 ∀(W:World) (j:Nat) (x:Tr.C) (a1 a2:Value),Below w.heap.size w W->l[j]? =some x->ReadC W x a1 a2->Calls prog 81 #[classV x a1 a2,.pointer (some ⟨VB,0,none⟩)] W fun e w'=>e= .returned (.bool (q x))/\Below W.heap.size W w'
theorem zSR (VB:Nat) (q:Tr.C->Bool) (w0:World) (l:List Tr.C) (H:HoldsC VB w0 q l) (B:Nat) (W:World) (hW:Below w0.heap.size w0 W) (hB:W.cell? ⟨B,0,none⟩=some (.func (.func 81) #[] #[.pointer (some ⟨VB,0,none⟩)]))
 (j:Nat) (x:Tr.C) (a1 a2:Value) (hx:l[j]? =some x) (h:ReadC W x a1 a2):
 Calls prog 120 #[classV x a1 a2,.pointer (some ⟨B,0,none⟩)] W fun e w'=>e= .returned (.bool (!q x))/\Below W.heap.size W w':=by
 have HR:=zh h;obtain⟨pa,ca,rfl⟩:=h.2.1.form;obtain⟨pb,cb,rfl⟩:=h.2.2.form;obtain⟨AN,hAN⟩:∃N,x.fields.length=N:=⟨_,rfl⟩;obtain⟨BN,hBN⟩:∃N,x.methods.length=N:=⟨_,rfl⟩;rw [hAN,hBN];rw [hAN,hBN] at HR;unfold classV;have hbx:=zD W (.cells #[.string x.name,.bool x.actor,.slice pa AN ca,.slice pb BN cb] 55);have hcall:=H _ j x _ _ (zC hW hbx) hx (HR.keep hbx);unfold classV at hcall;have HC:=zh hcall;have HBX:=zh hbx;have hB':=zA hbx hB;clear h hcall hbx H;go_in;go_wp2_with fail;refine HC.mono ?_;rintro e w2 ⟨rfl,hb2⟩;go_wp2;go_ret;exact⟨rfl,HBX.trans (hb2.mono HBX.size)⟩
theorem zPE (VB:Nat) (q:Tr.C->Bool) (w0:World) (l:List Tr.C) (H:HoldsC VB w0 q l) (B:Nat) (W:World) (hW:Below w0.heap.size w0 W) (hB:W.cell? ⟨B,0,none⟩=some (.func (.func 81) #[] #[.pointer (some ⟨VB,0,none⟩)])) (v:Value) (hS:SlC W v l):
 Calls prog 123 #[v,.func (.func 120) #[] #[.pointer (some ⟨B,0,none⟩)]] W (IdxPost (!l.all q) W):=by
 obtain⟨p,c,rfl⟩:=hS.form;have hll:=hS.len;unfold maxLen at hll;obtain⟨N,hN⟩:∃N,l.length=N:=⟨_,rfl⟩;rw [hN] at hS hll |-;have HS:=zh hS;have HN:=zh hN;have HH:=zh H;have HW:=zh hW;clear hS hN H hW;go_in;go_wp2
 go_loopw [8] (fun s8 wr=>∃j:Nat,s8= .int .i64 j/\j<=N/\(∀t x,t<j->l[t]? =some x->q x=true)/\Below W.heap.size W wr) (fun s8 _=>N -(intOf s8).toNat)
 case atStart=>exact ⟨0,rfl,kO _,fun t x ht=>by omega,Below.refl _ _⟩
 case round=>
  obtain⟨j,rfl,hj,hall,hbr⟩:=hrel;have HA:=zh hall;have HBR:=zh hbr;have HB1:=zh (zA hbr hB);clear hall;by_cases hlt:j<N
  ·obtain⟨x,hx⟩:∃x,l[j]? =some x:=⟨_,kB (by rw [HN.out];exact hlt)⟩;obtain⟨b,oo,a1,a2,rfl,_,hc,hnm,hsp,hsb⟩:=(HS.keep hbr).get hx;obtain⟨x0,x1,x2,x3⟩:=hc;have hr:ReadC wr x a1 a2:=⟨hnm,hsp,hsb⟩;have hcall:=zSR VB q w0 l HH B wr (zC HW HBR) HB1 j x _ _ hx hr;unfold classV at hcall;have HX:=zh hx;clear hx hr hbr hnm hsp hsb;cases hv:q x
   ·rw [hv] at hcall;have HCL:=zh hcall;have hf:=zh (zES HX hv);clear hcall hv;go_wp2_with fail;refine HCL.mono ?_;rintro e w2 ⟨rfl,hb2⟩;go_wp2;go_ret;exact⟨(j:Int),rfl,by rw [hf.out];simp,zC HBR hb2⟩
   ·rw [hv] at hcall;have HCL:=zh hcall;have HV:=zh hv;clear hcall hv;go_wp2_with fail;refine HCL.mono ?_;rintro e w2 ⟨rfl,hb2⟩;go_wp2_with fail;go_roundw
    case rel=>
     refine⟨j+1,by go_num,by omega,fun t y ht hty=>?_,zC HBR hb2⟩;by_cases e:t=j
     ·subst e;rw [HX.out] at hty;cases hty;exact HV
     ·exact HA t y (by omega) hty
    case measure=>simp [intOf];omega
  ·have hf:=zh (zCU HN (p:=q) (fun t x ht=>HA t x (by omega)));clear hbr;go_wp2;go_ret;exact⟨-1,rfl,by rw [hf.out];simp,HBR⟩
theorem zKP (VB:Nat) (q:Tr.C->Bool) (w0:World) (l:List Tr.C) (H:HoldsC VB w0 q l) (B:Nat) (W:World) (hW:Below w0.heap.size w0 W) (hB:W.cell? ⟨B,0,none⟩=some (.func (.func 81) #[] #[.pointer (some ⟨VB,0,none⟩)])) (v:Value) (hS:SlC W v l):
 Calls prog 119 #[v,.func (.func 120) #[] #[.pointer (some ⟨B,0,none⟩)]] W fun e w'=>e= .returned (.bool (!l.all q))/\Below W.heap.size W w':=by
 have HI:=zh (zPE VB q w0 l H B W hW hB v hS);obtain⟨p,c,rfl⟩:=hS.form;clear H hB hS hW;go_in;go_wp2_with fail;refine HI.mono ?_;rintro e w2 ⟨i,rfl,hi,hb⟩;have HII:=zh hi;clear hi;go_wp2;go_ret;exact⟨zBT HII,hb⟩
theorem zUB (VB:Nat) (q:Tr.C->Bool) (l:List Tr.C) (W:World) (H:HoldsC VB W q l) (v:Value) (hS:SlC W v l):
 Calls prog 80 #[v,.func (.func 81) #[] #[.pointer (some ⟨VB,0,none⟩)]] W fun e w'=>e= .returned (.bool (l.all q))/\Below W.heap.size W w':=by
 have hbx:=zD W (.cells #[.func (.func 81) #[] #[.pointer (some ⟨VB,0,none⟩)]] 140);have HI:=zh (zKP VB q W l H W.heap.size _ hbx (zJ W #[.func (.func 81) #[] #[.pointer (some ⟨VB,0,none⟩)]] 140 0 _ rfl) v (hS.keep hbx));have HBX:=zh hbx;obtain⟨p,c,rfl⟩:=hS.form;clear H hS hbx;go_in;go_wp2_with fail;refine HI.mono ?_;rintro e w2 ⟨rfl,hb⟩;go_wp2;go_ret;exact⟨rfl,HBX.trans (hb.mono HBX.size)⟩
end
end Go.Proofs.YtcnmfcgmnkncaaaGreatDoor
