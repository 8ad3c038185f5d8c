/-
  Rows of expressions, statements, methods, classes, names that a walk builds by append or lays in blocks of their own; what lies in them.
-/
import Derived.Test.YtcnmfcgmnkncaaaGreatDoorX1
import Derived.Laws.Rows
import Derived.OneCell
open Go.Proofs.Tryz
namespace Go.Proofs.YtcnmfcgmnkncaaaGreatDoor
namespace Pw
open Go.RowKit Go.Maps
theorem zB {w:World} {g:Nat} {cur:Array Value} {t:TypeId} {r:Nat × Nat} (h:w.heap[g]? =some (.cells cur t r)) {j:Nat} {u:Value} (hu:cur[j]? =some u):w.cell? ⟨g,j,none⟩=some u:=by simp [World.cell?,h,hu]
theorem zQ2 {w:World} {o:Obj} {n:Nat} (h:w.heap.size=n):(w.alloc o).heap[n]? =some o:=by subst h;exact(MapKept.heap_alloc w o).1
theorem heap_set {w:World} {P j:Nat} {cs:Array Value} {t:TypeId} {r:Nat × Nat} (u:Value) (h:w.heap[P]? =some (.cells cs t r)):(w.setCell ⟨P,j,none⟩ u).heap[P]? =some (.cells (cs.setIfInBounds j u) t r):=by
 have hlt:=lt_of_block h;have h':w.heap[P]= .cells cs t r:=by simpa [Array.getElem?_eq_getElem hlt] using h
 show(w.heap.modify P _)[P]? =_
 rw [Array.getElem?_eq_getElem (by simpa using hlt),Array.getElem_modify_self,h']
 rfl
theorem zP {w:World} {b:Nat} {cs:Array Value} {t:TypeId} (h:w.heap[b]? =some (.cells cs t (0,0))) (i:Nat):w.frozen? ⟨b,i,none⟩=false:=by simp [World.frozen?,h]
theorem bdE_mk {k o i:Int} {nm:BA} {a:Bool} {l:List Tr.E} (h1:Tr.I64 k) (h2:Tr.I64 o) (h3:Tr.I64 i) (h4:nm.size<=maxLen):BdE (.mk k o i nm a l):=⟨h1,h2,h3,h4⟩
theorem grown_refl (w:World) (r:Option Nat):w.grownBy w r:=⟨rfl,rfl,rfl,kL _,fun _ _ _=>rfl⟩
def ReadC (W:World) (x:Tr.C) (a1 a2:Value):Prop:=x.name.size<=maxLen/\SlStr W a1 x.fields/\SlM W a2 x.methods
def ReadM (W:World) (x:Tr.M) (a1 a2:Value):Prop:=x.name.size<=maxLen/\SlStr W a1 x.params/\SlS W a2 x.body
def zAK (x:Tr.E × Value):List Value:= [.int .i64 x.1.kind,.int .i64 x.1.op,.int .i64 x.1.int,.string x.1.name,.bool x.1.at_,x.2]
theorem flat6:∀(l:List (Tr.E × Value)) (j q:Nat) (x:Tr.E × Value),l[j]? =some x->q<6->(l.flatMap zAK)[j*6+q]? =(zAK x)[q]?
 | [],j,q,x,h,_=>by simp at h
 |y::r,0,q,x,h,hq=>by
  cases h;rw [List.flatMap_cons,Nat.zero_mul,Nat.zero_add,List.getElem?_append_left (by exact hq)]
 |y::r,j+1,q,x,h,hq=>by
  have h2:=flat6 r j q x (by simpa using h) hq;have h6:(zAK y).length=6:=rfl;rw [List.flatMap_cons,List.getElem?_append_right (by rw [h6];omega),h6,show(j+1)*6+q -6=j*6+q by omega];exact h2
theorem zJ2 {w:World} {g:Nat} {cs:Array Value} {t:TypeId} (h:w.heap[g]? =some (.cells cs t (0,0))) (l:List (Tr.E × Value)) (hl:l.length<=1000) (hc:cs.toList=l.flatMap zAK) (hr:∀x∈l,BdE x.1/\SlE w x.2 x.1.args):
 SlE w (.slice (some ⟨g,0,none⟩) l.length l.length) (l.map Prod.fst):=by
 have hlen:(l.map Prod.fst).length=l.length:=List.length_map _;have hget:∀j e,(l.map Prod.fst)[j]? =some e->∃x:Tr.E × Value,l[j]? =some x/\x.1=e:=fun j e hj=>by
  rw [List.getElem?_map,Option.map_eq_some_iff] at hj;exact hj
 have key:=SlE.row (w:=w) g 0 l.length (l.map Prod.fst) (fun j=>(l[j]?.map Prod.snd).getD (.bool false)) (by rw [hlen];exact kL _) (by unfold maxLen;omega) (fun j e hj=>?_) (fun j e hj=>?_)
 ·rw [hlen] at key;exact key
 ·obtain⟨x,hx,rfl⟩:=hget j e hj;have hat:∀q u,(zAK x)[q]? =some u->q<6->w.cell? ⟨g,j*6+q,none⟩=some u:=fun q u hu hq=>zB h (by rw [<-Array.getElem?_toList,hc,flat6 l j q x hx hq,hu])
  simp only [Nat.zero_add];have hv:((l[j]?.map Prod.snd).getD (.bool false))=x.2:=by rw [hx];rfl
  rw [hv];exact⟨⟨hat 0 _ rfl (by omega),hat 1 _ rfl (by omega),hat 2 _ rfl (by omega),hat 3 _ rfl (by omega),hat 4 _ rfl (by omega),hat 5 _ rfl (by omega)⟩,(hr x (kM hx)).1⟩
 ·obtain⟨x,hx,rfl⟩:=hget j e hj;have hv:((l[j]?.map Prod.snd).getD (.bool false))=x.2:=by rw [hx];rfl
  rw [hv];exact(hr x (kM hx)).2
section
variable {α:Type} (f:α->List Value) (k:Nat)
def flatV (l:List α):List Value:=l.flatMap f
theorem flatV_append (l r:List α):flatV f (l++r)=flatV f l++flatV f r:=List.flatMap_append
theorem flatV_nil:flatV f []= []:=rfl
theorem flatV_cons (x:α) (r:List α):flatV f (x::r)=f x++flatV f r:=List.flatMap_cons
variable (hf:∀a,(f a).length=k)
include hf
theorem flatV_len:∀l:List α,(flatV f l).length=l.length*k
 | []=>by simp [flatV]
 |x::r=>by rw [flatV_cons,kN,hf,flatV_len r,kI,Nat.add_mul,Nat.one_mul,Nat.add_comm]
theorem flatV_get:∀(l:List α) (j:Nat) (a:α) (i:Nat),i<k->l[j]? =some a->(flatV f l)[j*k+i]? =(f a)[i]?
 | [],j,a,i,_,h=>by simp at h
 |x::r,0,a,i,hi,h=>by
  simp only [List.getElem?_cons_zero,Option.some.injEq] at h;subst h;rw [flatV_cons,Nat.zero_mul,Nat.zero_add,List.getElem?_append_left (by rw [hf];exact hi)]
 |x::r,j+1,a,i,hi,h=>by
  rw [List.getElem?_cons_succ] at h;rw [flatV_cons,List.getElem?_append_right (by rw [hf,Nat.add_mul];omega),hf];have e:(j+1)*k+i -k=j*k+i:=by rw [Nat.add_mul];omega
  rw [e];exact flatV_get r j a i hi h
theorem flatV_cells {w:World} {b:Nat}:∀(l:List α) (o:Nat),(∀j a,l[j]? =some a->∀i u,(f a)[i]? =some u->w.cell? ⟨b,o+j*k+i,none⟩=some u)->∀j u,(flatV f l)[j]? =some u->w.cell? ⟨b,o+j,none⟩=some u
 | [],o,_,j,u,h=>by simp [flatV] at h
 |x::r,o,h,j,u,hj=>by
  rw [flatV_cons] at hj;by_cases hlt:j<k
  ·rw [List.getElem?_append_left (by rw [hf];exact hlt)] at hj;have:=h 0 x rfl j u hj;rw [Nat.zero_mul,Nat.add_zero] at this;exact this
  ·rw [List.getElem?_append_right (by rw [hf];omega),hf] at hj;have:=flatV_cells r (o+k) (fun j' a hj' i u hu=>by
    have:=h (j'+1) a (by rw [List.getElem?_cons_succ];exact hj') i u hu;rw [Nat.add_mul,Nat.one_mul,Nat.add_comm (j'*k) k,<-Nat.add_assoc] at this;exact this) (j -k) u hj
   have e:o+k+(j -k)=o+j:=(by omega);rw [e] at this;exact this
end
def SrcAt {α:Type} (w:World) (f:α->List Value) (v:Value) (l:List α):Prop:=
 (l= []/\∃p c,v= .slice p 0 c)\/∃b o c,v= .slice (some ⟨b,o,none⟩) l.length c/\∀j u,(flatV f l)[j]? =some u->w.cell? ⟨b,o+j,none⟩=some u
theorem SrcAt.keep {α:Type} {f:α->List Value} {w w':World} {v:Value} {l:List α} (h:SrcAt w f v l) (hb:Below w.heap.size w w'):SrcAt w' f v l:=by
 rcases h with h|⟨b,o,c,e,h⟩
 ·exact .inl h
 ·exact .inr ⟨b,o,c,e,fun j u hj=>zA hb (h j u hj)⟩
theorem run_append_owned_empty {P:Program} {w:World} (base:Nat) (t ty e:TypeId) (i:TypeInfo) (size:Nat) (ht:P.underlying t=some (.slice e)) (hi:P.info? e=some i)
 (v:Value) (n:Nat) (xs:List Value) (hown:w.ownsRow base e size v n xs) (p:Option Addr) (c:Nat):
 (Builtin.append_ #[t,t] ty #[v,.slice p 0 c]).run P w= .ok v w:=by
 cases p with
 |none=>
  rcases hown.2 with ⟨rfl,rfl⟩|⟨g,cap,cur,rfl,_,_,hnc,_⟩
  ·simp [Builtin.append_,run_underlying ht,sizeOf,typeInfo,hi,Builtin.lenOf,Builtin.firstCells]
  ·simp [Builtin.append_,run_underlying ht,sizeOf,typeInfo,hi,Builtin.lenOf,Builtin.firstCells,hnc,storeCells]
 |some q=>
  rcases hown.2 with ⟨rfl,rfl⟩|⟨g,cap,cur,rfl,_,_,hnc,_⟩
  ·simp [Builtin.append_,run_underlying ht,sizeOf,typeInfo,hi,Builtin.lenOf,Builtin.firstCells,loadCells,loadCellsFrom]
  ·simp [Builtin.append_,run_underlying ht,sizeOf,typeInfo,hi,Builtin.lenOf,Builtin.firstCells,hnc,storeCells,loadCells,loadCellsFrom,storeCells]
theorem SrcAt.lit {α:Type} {f:α->List Value} (w:World) (x:α) (t:TypeId) (cs:Array Value) (hcs:cs.toList=f x) (c:Nat):SrcAt (w.alloc (.cells cs t)) f (.slice (some ⟨w.heap.size,0,none⟩) 1 c) [x]:=by
 refine .inr ⟨w.heap.size,0,c,rfl,fun j u hj=>?_⟩;rw [flatV_cons,flatV_nil,List.append_nil,<-hcs,Array.getElem?_toList] at hj;rw [Nat.zero_add];exact zJ w cs t j u hj
theorem wp_append_src {P:Program} {α:Type} (f:α->List Value) (k:Nat) (hf:∀a,(f a).length=k)
 {w:World} {o:Oper} {a:Act} {K:Act->World->Prop} {Q:Exit->Act->World->Prop} (s x:Operand) (t:TypeId)
 (ho:o.op= .call { callee:= .builtin .append,args:= #[s,x],argTypes:= #[t,t] })
 (base:Nat) (e:TypeId) (i:TypeInfo) (z:Value) (bytes:Nat) (ht:P.underlying t=some (.slice e)) (hi:P.info? e=some i) (hz:i.zero=some z)
 (hsize:i.size=k) (hby:i.bytes=bytes) (hzs:z.cells.size=k) (hsz:0<k)
 (v v2:Value) (tr news:List α) (hs:a.eval s=v) (hx:a.eval x=v2) (hown:w.ownsRow base e k v tr.length (flatV f tr)) (hsrc:SrcAt w f v2 news) (h1:∀a∈news,∀u∈f a,u.oneCell'=true)
 (h63:tr.length+news.length<=maxLen) (hbytes:(tr.length+news.length)*bytes<=140737488355328) (hbase:base<=w.heap.size)
 (h:∀v' w',w'.ownsRow base e k v' (tr++news).length (flatV f (tr++news))->w.grownBy w' v.ownBlock->K (a.put o.dst v') w'):o.wp P a w K Q:=by
 rcases hsrc with ⟨rfl,p,c,rfl⟩|⟨b,of,c,rfl,hc⟩
 ·have hrun:=run_append_owned_empty (P:=P) (w:=w) base t o.type e i k ht hi v _ _ hown p c;unfold Oper.wp;simp [execOp,ho,resolve,invoke,builtin,hs,hx,hrun,Result.andThen];exact h v w (by rw [List.append_nil];exact hown) (grown_refl w _)
 ·refine wp_append_own w s x t ho base e i z k bytes ht hi hz hsize hby hzs hsz v tr.length (flatV f tr) hs hown ⟨b,of,none⟩ news.length c (flatV f news) hx (flatV_len f k hf news) (fun j u hj=>?_) (fun u hu=>?_) h63 hbytes hbase fun v' w' a1 a2 _=>h v' w' ?_ a2
  ·have e:(⟨b,of,none⟩:Addr).add j=⟨b,of+j,none⟩:=by unfold Addr.add;split<;>simp_all
   rw [e];exact hc j u hj
  ·unfold flatV at hu;obtain⟨x,hx1,hx⟩:=List.mem_flatMap.1 hu;exact h1 x hx1 u hx
  ·rw [kN,flatV_append];exact a1
theorem wpList_append_src {P:Program} {α:Type} (f:α->List Value) (k:Nat) (hf:∀a,(f a).length=k)
 {w:World} {ops:Array Oper} {rest:List Oper} {o:Oper} {a:Act} {Q:Exit->Act->World->Prop} (hgd:o.guard=none) (s x:Operand) (t:TypeId)
 (ho:o.op= .call { callee:= .builtin .append,args:= #[s,x],argTypes:= #[t,t] })
 (base:Nat) (e:TypeId) (i:TypeInfo) (z:Value) (bytes:Nat) (ht:P.underlying t=some (.slice e)) (hi:P.info? e=some i) (hz:i.zero=some z)
 (hsize:i.size=k) (hby:i.bytes=bytes) (hzs:z.cells.size=k) (hsz:0<k)
 (v v2:Value) (tr news:List α) (hs:a.eval s=v) (hx:a.eval x=v2) (hown:w.ownsRow base e k v tr.length (flatV f tr)) (hsrc:SrcAt w f v2 news) (h1:∀a∈news,∀u∈f a,u.oneCell'=true)
 (h63:tr.length+news.length<=maxLen) (hbytes:(tr.length+news.length)*bytes<=140737488355328) (hbase:base<=w.heap.size)
 (h:∀v' w',w'.ownsRow base e k v' (tr++news).length (flatV f (tr++news))->w.grownBy w' v.ownBlock->wpList P ops Q rest (a.put o.dst v') w'):wpList P ops Q (o::rest) a w:=
 wpList_plain hgd fun _ hK=>wp_append_src f k hf s x t ho base e i z bytes ht hi hz hsize hby hzs hsz v v2 tr news hs hx hown hsrc h1 h63 hbytes hbase fun v' w' h2 h3=>hK _ _ (h v' w' h2 h3)
theorem own_empty (w:World) (t:TypeId) (k:Nat):(w.alloc (.cells #[] t)).ownsRow w.heap.size t k (.slice (some ⟨w.heap.size,0,none⟩) 0 0) 0 []:=
 ⟨by simp,.inr ⟨w.heap.size,0,#[],rfl,kL _,(MapKept.heap_alloc w _).1,kL _,by unfold maxLen;omega,by simp,by simp⟩⟩
theorem own_ge {w:World} {base:Nat} {e:TypeId} {size n:Nat} {v:Value} {xs:List Value} (h:w.ownsRow base e size v n xs) {q:Nat} (hq:v.ownBlock=some q):base<=q/\∃cur,w.heap[q]? =some (.cells cur e (0,0)):=by
 rcases h.2 with ⟨rfl,_⟩|⟨g,cap,cur,rfl,hb,hg,_⟩
 ·cases hq
 ·cases hq;exact⟨hb,cur,hg⟩
abbrev CT:=Tr.C × Value × Value
abbrev MT:=Tr.M × Value × Value
def cCells (x:CT):List Value:= [.string x.1.name,.bool x.1.actor,x.2.1,x.2.2]
def mCells (x:MT):List Value:= [.string x.1.name,x.2.1,x.2.2]
theorem cCells_len (x:CT):(cCells x).length=4:=rfl
theorem mCells_len (x:MT):(mCells x).length=3:=rfl
theorem SlStr.one {w:World} {v:Value} {l:List BA} (h:SlStr w v l):v.oneCell'=true:=by
 obtain⟨p,c,rfl,_⟩:=h;rfl
theorem SlS.one {w:World} {v:Value} {l:List Tr.S} (h:SlS w v l):v.oneCell'=true:=by
 obtain⟨p,c,rfl,_⟩:=h.form;rfl
theorem SlM.one {w:World} {v:Value} {l:List Tr.M} (h:SlM w v l):v.oneCell'=true:=by
 obtain⟨p,c,rfl,_⟩:=h;rfl
theorem own_cells {α:Type} {f:α->List Value} {k:Nat} (hf:∀a,(f a).length=k) {w:World} {base:Nat} {t:TypeId} {v:Value} {l:List α} (h:w.ownsRow base t k v l.length (flatV f l)):
 (l= []/\v= .slice none 0 0)\/∃g cap,v= .slice (some ⟨g,0,none⟩) l.length cap/\g<w.heap.size/\l.length<=cap/\cap<=maxLen/\∀j a,l[j]? =some a->∀i u,(f a)[i]? =some u->w.cell? ⟨g,j*k+i,none⟩=some u:=by
 rcases h.2 with ⟨rfl,h0⟩|⟨g,cap,cur,rfl,_,hg,hnc,hcm,hcs,htk⟩
 ·exact .inl ⟨List.eq_nil_of_length_eq_zero h0,rfl⟩
 ·refine .inr ⟨g,cap,rfl,lt_of_block hg,hnc,hcm,fun j a hj i u hu=>?_⟩;have hi:i<k:=by have:=(kJ.1 hu).1;rw [hf] at this;exact this
  have h2:=flatV_get f k hf l j a i hi hj;rw [hu] at h2;have hlt:=(kJ.1 h2).1;rw [flatV_len f k hf] at hlt;rw [<-htk,List.getElem?_take_of_lt hlt] at h2;exact zB hg (by rw [<-Array.getElem?_toList];exact h2)
theorem SlC.rows {w:World} {v:Value} {cs:List Tr.C} (h:SlC w v cs):∃l:List CT,l.map Prod.fst=cs/\(∀x∈l,ReadC w x.1 x.2.1 x.2.2)/\SrcAt w cCells v l:=by
 obtain⟨p,c,rfl,hl,hn,hx⟩:=h;by_cases h0:cs= []
 ·subst h0;exact⟨[],rfl,fun x hx=>absurd hx (by simp),.inl ⟨rfl,p,c,rfl⟩⟩
 ·obtain⟨b,o,rfl⟩:∃b o,p=some ⟨b,o,none⟩:=by
   cases cs with
   |nil=>exact absurd rfl h0
   |cons a r=>obtain ⟨_,b,o,_,_,e,_⟩:=hx 0 a rfl;exact⟨b,o,e⟩
  have key:∀j,∃a:Value × Value,∀m,cs[j]? =some m->ReadC w m a.1 a.2/\CellsC w b (o+j*4) m a.1 a.2:=by
   intro j;cases hj:cs[j]? with
   |none=>exact ⟨(.bool false,.bool false),fun m hm=>by cases hm⟩
   |some m=>
    obtain⟨hnm,b',o',x,y,e,_,hc,h1,h2⟩:=hx j m hj;cases e;exact⟨(x,y),fun m' hm=>by cases hm;exact⟨⟨hnm,h1,h2⟩,hc⟩⟩
  let A:Nat->Value × Value:=fun j=>Classical.choose (key j)
  have hA:∀j m,cs[j]? =some m->ReadC w m (A j).1 (A j).2/\CellsC w b (o+j*4) m (A j).1 (A j).2:=fun j=>Classical.choose_spec (key j)
  have hget:∀(j:Nat) (x:CT),(cs.mapIdx fun j m=>((m,A j):CT))[j]? =some x->cs[j]? =some x.1/\x.2=A j:=by
   intro j x hj;rw [List.getElem?_mapIdx,Option.map_eq_some_iff] at hj;obtain⟨m,hm,rfl⟩:=hj;exact⟨hm,rfl⟩
  refine⟨cs.mapIdx fun j m=>(m,A j),?_,fun x hxm=>?_,.inr ⟨b,o,c,by rw [List.length_mapIdx],fun j u hj=>?_⟩⟩
  ·apply List.ext_getElem?
   intro j;rw [List.getElem?_map,List.getElem?_mapIdx,Option.map_map];cases cs[j]? <;>rfl
  ·obtain⟨j,hj,rfl⟩:=List.getElem_of_mem hxm;obtain⟨e1,e2⟩:=hget j _ (kB hj);have:=(hA j _ e1).1;rw [<-e2] at this;exact this
  ·refine flatV_cells cCells 4 cCells_len _ o (fun j a ha i u hu=>?_) j u hj;obtain⟨e1,e2⟩:=hget j a ha;have h4:=(hA j _ e1).2;rw [<-e2] at h4
   match i,hu with
   |0,hu=>cases hu;exact h4.1
   |1,hu=>cases hu;exact h4.2.1
   |2,hu=>cases hu;exact h4.2.2.1
   |3,hu=>cases hu;exact h4.2.2.2
theorem SlM.rows {w:World} {v:Value} {cs:List Tr.M} (h:SlM w v cs):∃l:List MT,l.map Prod.fst=cs/\(∀x∈l,ReadM w x.1 x.2.1 x.2.2)/\SrcAt w mCells v l:=by
 obtain⟨p,c,rfl,hl,hn,hx⟩:=h;by_cases h0:cs= []
 ·subst h0;exact⟨[],rfl,fun x hx=>absurd hx (by simp),.inl ⟨rfl,p,c,rfl⟩⟩
 ·obtain⟨b,o,rfl⟩:∃b o,p=some ⟨b,o,none⟩:=by
   cases cs with
   |nil=>exact absurd rfl h0
   |cons a r=>obtain ⟨_,b,o,_,_,e,_⟩:=hx 0 a rfl;exact⟨b,o,e⟩
  have key:∀j,∃a:Value × Value,∀m,cs[j]? =some m->ReadM w m a.1 a.2/\CellsM w b (o+j*3) m a.1 a.2:=by
   intro j;cases hj:cs[j]? with
   |none=>exact ⟨(.bool false,.bool false),fun m hm=>by cases hm⟩
   |some m=>
    obtain⟨hnm,b',o',x,y,e,_,hc,h1,h2⟩:=hx j m hj;cases e;exact⟨(x,y),fun m' hm=>by cases hm;exact⟨⟨hnm,h1,h2⟩,hc⟩⟩
  let A:Nat->Value × Value:=fun j=>Classical.choose (key j)
  have hA:∀j m,cs[j]? =some m->ReadM w m (A j).1 (A j).2/\CellsM w b (o+j*3) m (A j).1 (A j).2:=fun j=>Classical.choose_spec (key j)
  have hget:∀(j:Nat) (x:MT),(cs.mapIdx fun j m=>((m,A j):MT))[j]? =some x->cs[j]? =some x.1/\x.2=A j:=by
   intro j x hj;rw [List.getElem?_mapIdx,Option.map_eq_some_iff] at hj;obtain⟨m,hm,rfl⟩:=hj;exact⟨hm,rfl⟩
  refine⟨cs.mapIdx fun j m=>(m,A j),?_,fun x hxm=>?_,.inr ⟨b,o,c,by rw [List.length_mapIdx],fun j u hj=>?_⟩⟩
  ·apply List.ext_getElem?
   intro j;rw [List.getElem?_map,List.getElem?_mapIdx,Option.map_map];cases cs[j]? <;>rfl
  ·obtain⟨j,hj,rfl⟩:=List.getElem_of_mem hxm;obtain⟨e1,e2⟩:=hget j _ (kB hj);have:=(hA j _ e1).1;rw [<-e2] at this;exact this
  ·refine flatV_cells mCells 3 mCells_len _ o (fun j a ha i u hu=>?_) j u hj;obtain⟨e1,e2⟩:=hget j a ha;have h4:=(hA j _ e1).2;rw [<-e2] at h4
   match i,hu with
   |0,hu=>cases hu;exact h4.1
   |1,hu=>cases hu;exact h4.2.1
   |2,hu=>cases hu;exact h4.2.2
abbrev ET:=Tr.E × Value
theorem zBO (x:ET):(zAK x).length=6:=rfl
def zBD (w:World) (x:ET):Prop:=BdE x.1/\SlE w x.2 x.1.args
theorem SlE.one {w:World} {v:Value} {l:List Tr.E} (h:SlE w v l):v.oneCell'=true:=by cases h<;>rfl
theorem zGG {w:World} {l:List ET} (h:∀x∈l,zBD w x):∀a∈l,∀u∈zAK a,u.oneCell'=true:=by
 intro a ha u hu;obtain⟨_,h1⟩:=h a ha;simp only [zAK,kV,List.not_mem_nil,or_false] at hu;rcases hu with rfl|rfl|rfl|rfl|rfl|rfl
 ·rfl
 ·rfl
 ·rfl
 ·rfl
 ·rfl
 ·exact SlE.one h1
theorem zU2 {w:World} {base:Nat} {v:Value} {l:List ET} (h:w.ownsRow base 37 6 v l.length (flatV zAK l)) (hx:∀x∈l,zBD w x):SlE w v (l.map Prod.fst):=by
 rcases own_cells zBO h with ⟨rfl,rfl⟩|⟨g,cap,rfl,hg,hn,hm,hc⟩
 ·exact .nil _ _
 ·have hlen:(l.map Prod.fst).length=l.length:=List.length_map ..;have e:(Value.slice (some ⟨g,0,none⟩) l.length cap)= .slice (some ⟨g,0,none⟩) (l.map Prod.fst).length cap:=by rw [hlen]
  rw [e];refine .row g 0 cap _ (fun j=>(l[j]?.map Prod.snd).getD (.bool false)) (by rw [hlen];exact hn) hm (fun j m hj=>?_) (fun j m hj=>?_)
  ·rw [List.getElem?_map,Option.map_eq_some_iff] at hj;obtain⟨a,ha,rfl⟩:=hj;have c:=hc j a ha;rw [ha,Nat.zero_add];exact⟨⟨c 0 _ rfl,c 1 _ rfl,c 2 _ rfl,c 3 _ rfl,c 4 _ rfl,c 5 _ rfl⟩,(hx a (kM ha)).1⟩
  ·rw [List.getElem?_map,Option.map_eq_some_iff] at hj;obtain⟨a,ha,rfl⟩:=hj;rw [ha];exact(hx a (kM ha)).2
theorem SlE.rows {w:World} {v:Value} {es:List Tr.E} (h:SlE w v es):∃l:List ET,l.map Prod.fst=es/\(∀x∈l,zBD w x)/\SrcAt w zAK v l:=by
 cases h with
 |nil p c=>exact ⟨[],rfl,fun x hx=>absurd hx (by simp),.inl ⟨rfl,p,c,rfl⟩⟩
 |row b o c l A hn hm hc ha=>
  have hget:∀(j:Nat) (x:ET),(es.mapIdx fun j m=>((m,A j):ET))[j]? =some x->es[j]? =some x.1/\x.2=A j:=by
   intro j x hj;rw [List.getElem?_mapIdx,Option.map_eq_some_iff] at hj;obtain⟨m,hm,rfl⟩:=hj;exact⟨hm,rfl⟩
  refine⟨es.mapIdx fun j m=>(m,A j),?_,fun x hxm=>?_,.inr ⟨b,o,c,by rw [List.length_mapIdx],fun j u hj=>?_⟩⟩
  ·apply List.ext_getElem?
   intro j;rw [List.getElem?_map,List.getElem?_mapIdx,Option.map_map];cases es[j]? <;>rfl
  ·obtain⟨j,hj,rfl⟩:=List.getElem_of_mem hxm;obtain⟨e1,e2⟩:=hget j _ (kB hj);refine⟨(hc j _ e1).2,?_⟩;rw [e2];exact ha j _ e1
  ·refine flatV_cells zAK 6 zBO (es.mapIdx fun j m=>((m,A j):ET)) o (fun j' a hj' i u hu=>?_) j u hj;obtain⟨e1,e2⟩:=hget j' a hj';obtain⟨⟨x0,x1,x2,x3,x4,x5⟩,_⟩:=hc j' _ e1;rw [<-e2] at x5;simp only [zAK] at hu
   match i,hu with
   |0,hu=>cases hu;exact x0
   |1,hu=>cases hu;exact x1
   |2,hu=>cases hu;exact x2
   |3,hu=>cases hu;exact x3
   |4,hu=>cases hu;exact x4
   |5,hu=>cases hu;exact x5
   |i+6,hu=>simp at hu
theorem info_parts {i:Option TypeInfo} {z:Value} {s b:Nat} (h:i.map (fun i=>(i.zero,i.size,i.bytes))=some (some z,s,b)):∃i0,i=some i0/\i0.zero=some z/\i0.size=s/\i0.bytes=b:=by
 cases i with
 |none=>cases h
 |some i0=>
  simp only [Option.map_some,Option.some.injEq,Prod.mk.injEq] at h;exact⟨i0,rfl,h.1,h.2.1,h.2.2⟩
theorem exprInfo:(prog.info? 37).map (fun i=>(i.zero,i.size,i.bytes))=some (some (.agg #[.int .i64 0,.int .i64 0,.int .i64 0,.string ⟨#[]⟩,.bool false,.slice none 0 0]),6,72):=by kernel_rfl
theorem own_form {w:World} {b:Nat} {e:TypeId} {size n:Nat} {v:Value} {xs:List Value} (h:w.ownsRow b e size v n xs):∃p cap,v= .slice p n cap:=by
 rcases h.2 with ⟨rfl,rfl⟩|⟨g,cap,cur,rfl,_⟩
 ·exact⟨_,_,rfl⟩
 ·exact⟨_,_,rfl⟩
def nCells (x:BA):List Value:= [.string x]
theorem zBV (x:BA):(nCells x).length=1:=rfl
theorem zI9 (l:List BA):∀a∈l,∀u∈nCells a,u.oneCell'=true:=by
 intro a _ u hu;obtain rfl:=kT.1 hu
 rfl
theorem slStr_own {w:World} {base:Nat} {v:Value} {l:List BA} (h:w.ownsRow base 9 1 v l.length (flatV nCells l)) (hx:∀x∈l,x.size<=maxLen):SlStr w v l:=by
 rcases own_cells zBV h with ⟨rfl,rfl⟩|⟨g,cap,rfl,hg,hn,hm,hc⟩
 ·exact⟨_,_,rfl,kO _,fun h=>absurd rfl h,fun j n hj=>by simp at hj⟩
 ·refine⟨some ⟨g,0,none⟩,cap,rfl,by omega,fun _=>⟨hn,hm⟩,fun j m hj=>?_⟩;have c:=hc j m hj 0 _ rfl;rw [Nat.mul_one] at c;exact⟨hx m (kM hj),g,0,rfl,hg,by rw [Nat.zero_add];exact c⟩
theorem strInfo:(prog.info? 9).map (fun i=>(i.zero,i.size,i.bytes))=some (some (.string ⟨#[]⟩),1,16):=by kernel_rfl
theorem blk1 {w:World} {g:Nat} {cs:Array Value} {t:TypeId} (h:w.heap[g]? =some (.cells cs t (0,0))) (q:Nat) (u:Value) (hu:cs[q]? =some u):w.cell? ⟨g,0+q,none⟩=some u:=by
 rw [Nat.zero_add];exact zB h hu
theorem zFC {w:World} {g:Nat} {e:Tr.E} {a:Value} {t:TypeId} (h:w.heap[g]? =some (.cells #[.int .i64 e.kind,.int .i64 e.op,.int .i64 e.int,.string e.name,.bool e.at_,a] t (0,0))) (hb:BdE e) (hs:SlE w a e.args):SlE w (.slice (some ⟨g,0,none⟩) 1 1) [e]:=
 zJ2 h [(e,a)] (by simp) rfl (fun z hz=>by
  obtain rfl:=kT.1 hz;exact⟨hb,hs⟩)
theorem zNO {w:World} {g:Nat} {s:Tr.S} {x y z:Value} {t:TypeId} (h:w.heap[g]? =some (.cells #[.int .i64 s.kind,.string s.name,x,y,z] t (0,0))) (hb:BdS s) (hx:SlE w x s.exprs) (hy:SlS w y s.body) (hz:SlS w z s.els):SlS w (.slice (some ⟨g,0,none⟩) 1 1) [s]:=by
 refine .row g 0 1 [s] (fun _=>x) (fun _=>y) (fun _=>z) (kL _) (by decide) (fun j s' hj=>?_) (fun j s' hj=>?_) (fun j s' hj=>?_) (fun j s' hj=>?_)
 all_goals
  obtain rfl:j=0:=by have:=(kJ.1 hj).1;simpa using this
  cases hj
 ·exact⟨⟨blk1 h 0 _ rfl,blk1 h 1 _ rfl,blk1 h 2 _ rfl,blk1 h 3 _ rfl,blk1 h 4 _ rfl⟩,hb⟩
 ·exact hx
 ·exact hy
 ·exact hz
theorem zS6 {w:World} {g:Nat} {m:Tr.M} {x y:Value} {t:TypeId} (h:w.heap[g]? =some (.cells #[.string m.name,x,y] t (0,0))) (hn:m.name.size<=maxLen) (hx:SlStr w x m.params) (hy:SlS w y m.body):SlM w (.slice (some ⟨g,0,none⟩) 1 1) [m]:=by
 refine⟨_,1,rfl,show 1<=maxLen by decide,fun _=>⟨kL _,by decide⟩,fun j m' hj=>?_⟩;obtain rfl:j=0:=by have:=(kJ.1 hj).1;simpa using this
 cases hj;exact⟨hn,g,0,x,y,rfl,lt_of_block h,⟨blk1 h 0 _ rfl,blk1 h 1 _ rfl,blk1 h 2 _ rfl⟩,hx,hy⟩
theorem zS8 {w:World} {g:Nat} {c:Tr.C} {x y:Value} {t:TypeId} (h:w.heap[g]? =some (.cells #[.string c.name,.bool c.actor,x,y] t (0,0))) (hn:c.name.size<=maxLen) (hx:SlStr w x c.fields) (hy:SlM w y c.methods):SlC w (.slice (some ⟨g,0,none⟩) 1 1) [c]:=by
 refine⟨_,1,rfl,show 1<=maxLen by decide,fun _=>⟨kL _,by decide⟩,fun j m' hj=>?_⟩;obtain rfl:j=0:=by have:=(kJ.1 hj).1;simpa using this
 cases hj;exact⟨hn,g,0,x,y,rfl,lt_of_block h,⟨blk1 h 0 _ rfl,blk1 h 1 _ rfl,blk1 h 2 _ rfl,blk1 h 3 _ rfl⟩,hx,hy⟩
theorem zK2 (w:World) (p:Option Addr) (c:Nat):SlStr w (.slice p 0 c) []:=⟨p,c,rfl,kO _,fun h=>absurd rfl h,fun j n hj=>by simp at hj⟩
theorem zQL {w:World} {g:Nat} {l:List BA} {t:TypeId} {cs:Array Value} (h:w.heap[g]? =some (.cells cs t (0,0))) (hcs:cs=(l.map Value.string).toArray) (hl:l.length<=1000) (hs:∀s∈l,s.size<=maxLen):SlStr w (.slice (some ⟨g,0,none⟩) l.length l.length) l:=by
 subst hcs;refine⟨_,_,rfl,by unfold maxLen;omega,fun _=>⟨kL _,by unfold maxLen;omega⟩,fun j n hj=>⟨hs n (kM hj),g,0,rfl,lt_of_block h,?_⟩⟩;rw [Nat.zero_add];refine zB h ?_;rw [List.getElem?_toArray,List.getElem?_map,hj]
 rfl
end Pw
end Go.Proofs.YtcnmfcgmnkncaaaGreatDoor
