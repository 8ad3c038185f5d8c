/-
  CoMem, CkSpec, CoSpec, CoFold.
-/
import Derived.Test.YtcnmfcgmnkncaaaGreatDoorX2
import Derived.Laws.AppendOwnNone
namespace Go.Proofs.YtcnmfcgmnkncaaaGreatDoor
namespace Cw
open Go.RowKit Go.Maps Pw
theorem zCQ (w:World) (r:Option Nat):w.grownBy w r:=⟨rfl,rfl,rfl,kL _,fun _ _ _=>rfl⟩
theorem zAQ {a b c:World} {r:Option Nat} (h:a.grownBy b r) (k:b.grownBy c r):a.grownBy c r:=
 ⟨k.os.trans h.os,k.tape.trans h.tape,k.output.trans h.output,kG h.size k.size,fun i hi hn=>(k.block i (kP hi h.size) hn).trans (h.block i hi hn)⟩
theorem zCH {a b:World} (h:Below a.heap.size a b) (r:Option Nat):a.grownBy b r:=⟨h.os,h.tape,h.output,h.size,fun i hi _=>h.block i hi⟩
theorem zEH {a b:World} (h:a.grownBy b none):Below a.heap.size a b:=⟨h.os,h.tape,h.output,h.size,fun k hk=>h.block k hk (fun e=>by cases e)⟩
theorem zGA {a b:World} {r:Option Nat} (h:a.grownBy b r):a.grownBy b.drew r:=⟨h.os,h.tape,h.output,h.size,h.block⟩
theorem zW (w:World) (g j:Nat) (u:Value):w.grownBy (w.setCell ⟨g,j,none⟩ u) (some g):=
 ⟨rfl,rfl,rfl,by simp,fun k _ hk=>heap_setCell_other w ⟨g,j,none⟩ k u (fun e=>hk (by rw [e]))⟩
theorem gr_at {a b:World} {r:Option Nat} (h:a.grownBy b r) {g:Nat} {o:Obj} (hg:a.heap[g]? =some o) (hn:some g≠r):b.heap[g]? =some o:=(h.block g (Array.getElem?_eq_some_iff.1 hg).1 hn).trans hg
theorem zGB {a b:World} {r:Option Nat} (h:a.grownBy b r) {g j:Nat} {v:Value} (hg:a.cell? ⟨g,j,none⟩=some v) (hn:some g≠r):b.cell? ⟨g,j,none⟩=some v:=by
 have hb:=h.block g (zAR hg) hn;unfold World.cell? at hg |-;rw [hb];exact hg
def set6 (w:World) (b:Nat) (x0 x1 x2 x3 x4 x5:Value):World:=((((((w.setCell ⟨b,0,none⟩ x0).setCell ⟨b,1,none⟩ x1).setCell ⟨b,2,none⟩ x2).setCell ⟨b,3,none⟩ x3).setCell ⟨b,4,none⟩ x4).setCell ⟨b,5,none⟩ x5)
theorem zG0 {w:World} {b:Nat} {y0 y1 y2 y3 y4 y5:Value} {t:TypeId} (x0 x1 x2 x3 x4 x5:Value) (h:w.heap[b]? =some (.cells #[y0,y1,y2,y3,y4,y5] t (0,0))):(set6 w b x0 x1 x2 x3 x4 x5).heap[b]? =some (.cells #[x0,x1,x2,x3,x4,x5] t (0,0)):=
 heap_set (j:=5) x5 (heap_set (j:=4) x4 (heap_set (j:=3) x3 (heap_set (j:=2) x2 (heap_set (j:=1) x1 (heap_set (j:=0) x0 (h))))))
theorem zJ4 (w:World) (b:Nat) (x0 x1 x2 x3 x4 x5:Value):w.grownBy (set6 w b x0 x1 x2 x3 x4 x5) (some b):=
 zAQ (zAQ (zAQ (zAQ (zAQ (zAQ (zCQ _ _) (zW _ b 0 x0)) (zW _ b 1 x1)) (zW _ b 2 x2)) (zW _ b 3 x3)) (zW _ b 4 x4)) (zW _ b 5 x5)
def upL (B:Nat) (l:List Nat):Nat->Bool:=fun k=>decide (k<B\/k∈l)
theorem zB9 {B k:Nat} {l:List Nat}:upL B l k=true↔k<B\/k∈l:=by unfold upL;exact decide_eq_true_iff
theorem zBQ {B B':Nat} {l l':List Nat} {w w':World} {row:Option Nat} (hg:w.grownBy w' row) (h1:∀k,row=some k->k<B\/k∈l) (h2:∀k,k<w.heap.size->k<B'\/k∈l'->k<B\/k∈l):Inc (hide (upL B l) w) (hide (upL B' l') w'):=
 zLV hg (fun k hk=>zB9.2 (h1 k hk)) (fun k hk hs=>zB9.2 (h2 k hk (zB9.1 hs)))
theorem zEV {B B':Nat} {l l':List Nat} {w:World} (h2:∀k,k<w.heap.size->k<B'\/k∈l'->k<B\/k∈l):Inc (hide (upL B l) w) (hide (upL B' l') w):=zBQ (row:=none) (zCQ w none) (fun _ h=>by cases h) h2
theorem zCE {B k:Nat} {l:List Nat} (h:B<=k) (h2:k∉l):upL B l k=false:=by
 unfold upL;rw [decide_eq_false_iff_not];rintro (h3|h3)
 ·omega
 ·exact h2 h3
theorem zBS {n:Int} (h0: -1000<=n) (h1:n<=1000):Tr.I64 n:=⟨by omega,by omega⟩
theorem zGZ:(⟨#[]⟩:BA).size<=maxLen:=by decide
theorem ne_sm {a b:Nat} (h:a≠b):some a≠some b:=fun e=>h (by injection e)
theorem cells3 {W:World} {b:Nat} {t:TypeId} {v0 v1 v2:Value} (h:W.heap[b]? =some (.cells #[v0,v1,v2] t (0,0))):b<W.heap.size/\W.cell? ⟨b,0,none⟩=some v0/\W.frozen? ⟨b,0,none⟩=false/\W.cell? ⟨b,1,none⟩=some v1/\W.frozen? ⟨b,1,none⟩=false/\W.cell? ⟨b,2,none⟩=some v2/\W.frozen? ⟨b,2,none⟩=false:=⟨lt_of_block h,zB h (j:=0) rfl,zP h 0,zB h (j:=1) rfl,zP h 1,zB h (j:=2) rfl,zP h 2⟩
theorem cells4 {W:World} {b:Nat} {t:TypeId} {v0 v1 v2 v3:Value} (h:W.heap[b]? =some (.cells #[v0,v1,v2,v3] t (0,0))):b<W.heap.size/\W.cell? ⟨b,0,none⟩=some v0/\W.frozen? ⟨b,0,none⟩=false/\W.cell? ⟨b,1,none⟩=some v1/\W.frozen? ⟨b,1,none⟩=false/\W.cell? ⟨b,2,none⟩=some v2/\W.frozen? ⟨b,2,none⟩=false/\W.cell? ⟨b,3,none⟩=some v3/\W.frozen? ⟨b,3,none⟩=false:=⟨lt_of_block h,zB h (j:=0) rfl,zP h 0,zB h (j:=1) rfl,zP h 1,zB h (j:=2) rfl,zP h 2,zB h (j:=3) rfl,zP h 3⟩
theorem zX {W:World} {b:Nat} {t:TypeId} {v0 v1 v2 v3 v4:Value} (h:W.heap[b]? =some (.cells #[v0,v1,v2,v3,v4] t (0,0))):b<W.heap.size/\W.cell? ⟨b,0,none⟩=some v0/\W.frozen? ⟨b,0,none⟩=false/\W.cell? ⟨b,1,none⟩=some v1/\W.frozen? ⟨b,1,none⟩=false/\W.cell? ⟨b,2,none⟩=some v2/\W.frozen? ⟨b,2,none⟩=false/\W.cell? ⟨b,3,none⟩=some v3/\W.frozen? ⟨b,3,none⟩=false/\W.cell? ⟨b,4,none⟩=some v4/\W.frozen? ⟨b,4,none⟩=false:=⟨lt_of_block h,zB h (j:=0) rfl,zP h 0,zB h (j:=1) rfl,zP h 1,zB h (j:=2) rfl,zP h 2,zB h (j:=3) rfl,zP h 3,zB h (j:=4) rfl,zP h 4⟩
theorem zF {W:World} {b:Nat} {t:TypeId} {v0 v1 v2 v3 v4 v5:Value} (h:W.heap[b]? =some (.cells #[v0,v1,v2,v3,v4,v5] t (0,0))):b<W.heap.size/\W.cell? ⟨b,0,none⟩=some v0/\W.frozen? ⟨b,0,none⟩=false/\W.cell? ⟨b,1,none⟩=some v1/\W.frozen? ⟨b,1,none⟩=false/\W.cell? ⟨b,2,none⟩=some v2/\W.frozen? ⟨b,2,none⟩=false/\W.cell? ⟨b,3,none⟩=some v3/\W.frozen? ⟨b,3,none⟩=false/\W.cell? ⟨b,4,none⟩=some v4/\W.frozen? ⟨b,4,none⟩=false/\W.cell? ⟨b,5,none⟩=some v5/\W.frozen? ⟨b,5,none⟩=false:=⟨lt_of_block h,zB h (j:=0) rfl,zP h 0,zB h (j:=1) rfl,zP h 1,zB h (j:=2) rfl,zP h 2,zB h (j:=3) rfl,zP h 3,zB h (j:=4) rfl,zP h 4,zB h (j:=5) rfl,zP h 5⟩
def Mn (r:World->Prop):Prop:=∀U U':World,Inc U U'->r U->r U'
theorem zS {W:World} {b:Nat} {t:TypeId} {v0:Value} (h:W.heap[b]? =some (.cells #[v0] t (0,0))):b<W.heap.size/\W.cell? ⟨b,0,none⟩=some v0/\W.frozen? ⟨b,0,none⟩=false:=⟨lt_of_block h,zB h (j:=0) rfl,zP h 0⟩
theorem zAC {W:World} {b:Nat} {t:TypeId} {v0 v1 v2 v3 v4 v5 v6 v7 v8 v9 v10 v11:Value} (h:W.heap[b]? =some (.cells #[v0,v1,v2,v3,v4,v5,v6,v7,v8,v9,v10,v11] t (0,0))):b<W.heap.size/\W.cell? ⟨b,0,none⟩=some v0/\W.frozen? ⟨b,0,none⟩=false/\W.cell? ⟨b,1,none⟩=some v1/\W.frozen? ⟨b,1,none⟩=false/\W.cell? ⟨b,2,none⟩=some v2/\W.frozen? ⟨b,2,none⟩=false/\W.cell? ⟨b,3,none⟩=some v3/\W.frozen? ⟨b,3,none⟩=false/\W.cell? ⟨b,4,none⟩=some v4/\W.frozen? ⟨b,4,none⟩=false/\W.cell? ⟨b,5,none⟩=some v5/\W.frozen? ⟨b,5,none⟩=false/\W.cell? ⟨b,6,none⟩=some v6/\W.frozen? ⟨b,6,none⟩=false/\W.cell? ⟨b,7,none⟩=some v7/\W.frozen? ⟨b,7,none⟩=false/\W.cell? ⟨b,8,none⟩=some v8/\W.frozen? ⟨b,8,none⟩=false/\W.cell? ⟨b,9,none⟩=some v9/\W.frozen? ⟨b,9,none⟩=false/\W.cell? ⟨b,10,none⟩=some v10/\W.frozen? ⟨b,10,none⟩=false/\W.cell? ⟨b,11,none⟩=some v11/\W.frozen? ⟨b,11,none⟩=false:=⟨lt_of_block h,zB h (j:=0) rfl,zP h 0,zB h (j:=1) rfl,zP h 1,zB h (j:=2) rfl,zP h 2,zB h (j:=3) rfl,zP h 3,zB h (j:=4) rfl,zP h 4,zB h (j:=5) rfl,zP h 5,zB h (j:=6) rfl,zP h 6,zB h (j:=7) rfl,zP h 7,zB h (j:=8) rfl,zP h 8,zB h (j:=9) rfl,zP h 9,zB h (j:=10) rfl,zP h 10,zB h (j:=11) rfl,zP h 11⟩
def Mono {α:Type} (ok:World->α->Prop):Prop:=∀(U U':World) (x:α),Inc U U'->ok U x->ok U' x
def ownL (v:Value):List Nat:=v.ownBlock.toList
theorem zAL {v:Value} {k:Nat}:k∈ownL v↔v.ownBlock=some k:=by
 unfold ownL;cases v.ownBlock with
 |none=>simp
 |some q=>simp [eq_comm]
structure RowOk {α:Type} (f:α->List Value) (k:Nat) (t:TypeId) (ok:World->α->Prop) (B:Nat) (l:List Nat) (W:World) (v:Value) (tr:List α):Prop where
 own:W.ownsRow B t k v tr.length (flatV f tr)
 rd:∀x∈tr,ok (hide (upL B (l++ownL v)) W) x
 nin:∀q∈l,v.ownBlock≠some q
section
variable {α:Type} {f:α->List Value} {k:Nat} {t:TypeId} {ok:World->α->Prop} {B:Nat} {l:List Nat} {W W':World} {v:Value} {tr:List α}
theorem RowOk.nil:RowOk f k t ok B l W (.slice none 0 0) []:=⟨⟨by simp [flatV],.inl ⟨rfl,rfl⟩⟩,(fun x hx=>by cases hx),(fun _ _ h=>by cases h)⟩
theorem RowOk.ge (h:RowOk f k t ok B l W v tr) {q:Nat} (hq:v.ownBlock=some q):B<=q/\q<W.heap.size:=by
 obtain⟨h1,cur,h2⟩:=own_ge h.own hq;exact⟨h1,lt_of_block h2⟩
theorem RowOk.keep (hmono:Mono ok) (h:RowOk f k t ok B l W v tr) {row:Option Nat} (hg:W.grownBy W' row) (h1:∀q,row=some q->q<B\/q∈l) (h2:∀q,row=some q->v.ownBlock≠some q):RowOk f k t ok B l W' v tr:=by
 refine⟨?_,fun x hx=>hmono _ _ _ (zBQ hg (fun q hq=>?_) (fun q _ hq=>hq)) (h.rd x hx),h.nin⟩
 ·refine⟨h.own.1,?_⟩;rcases h.own.2 with hn|⟨g,cap,cur,rfl,hb,hg',rest⟩
  ·exact .inl hn
  ·exact .inr ⟨g,cap,cur,rfl,hb,gr_at hg hg' (fun e=>h2 g e.symm rfl),rest⟩
 ·rcases h1 q hq with h3|h3
  ·exact .inl h3
  ·exact .inr (kU.2 (.inl h3))
theorem RowOk.below (hmono:Mono ok) (h:RowOk f k t ok B l W v tr) (hb:Below W.heap.size W W'):RowOk f k t ok B l W' v tr:=
 h.keep hmono (zCH hb none) (fun _ e=>by cases e) (fun _ e=>by cases e)
end
theorem zDW {P:Program} (w:World) (base:Nat) (t ty e:TypeId) (i:TypeInfo) (z:Value) (size bytes:Nat) (ht:P.underlying t=some (.slice e)) (hi:P.info? e=some i) (hz:i.zero=some z)
 (hsize:i.size=size) (hby:i.bytes=bytes)
 (v:Value) (n:Nat) (xs:List Value) (hown:w.ownsRow base e size v n xs)
 (a:Addr) (m c:Nat) (news:List Value) (hl:news.length=m*size) (hm:0<m) (hnews:∀j u,news[j]? =some u->w.cell? (a.add j)=some u) (h1:∀u∈news,u.oneCell'=true)
 (h63:n+m<=maxLen) (hbytes:(n+m)*bytes<=140737488355328) (v':Value) (w':World) (hr:(Builtin.append_ #[t,t] ty #[v,.slice (some a) m c]).run P w= .ok v' w'):
 v'.ownBlock=v.ownBlock\/v'.ownBlock=some w.heap.size:=by
 subst hsize;subst hby;have hsmall:n+m<=9223372036854775807:=by simp only [maxLen] at h63;omega
 rcases hown.2 with ⟨rfl,rfl⟩|⟨g,cap,cur,rfl,hbg,hg,hnc,hcm,hcs,htake⟩
 ·have h2:=run_append_nil (P:=P) w t ty e i z ht hi hz a m c news hl hnews hm (by omega) (by have hb:=hbytes;simp only [Nat.zero_add] at hb;omega);rw [hr] at h2;injection h2 with h3
  subst h3;exact .inr rfl
 ·by_cases hroom:n+m<=cap
  ·have hfit:n*i.size+news.length<=cur.size:=by rw [hl,hcs,<-Nat.add_mul];exact Nat.mul_le_mul_right _ hroom
   have h2:=run_append_room (P:=P) w t ty e i ht hi g n cap cur hg a m c news hl hnews h1 hroom hfit;rw [hr] at h2;injection h2 with h3
   subst h3;exact .inl rfl
  ·have holds:∀j u,xs[j]? =some u->w.cell? ((⟨g,0,none⟩:Addr).add j)=some u:=hown.cells (g:=g) rfl;have h2:=run_append_grow (P:=P) w t ty e i z ht hi hz ⟨g,0,none⟩ n cap xs hown.1 holds a m c news hl hnews (by omega) (by omega) (growslice_fits (by omega) hbytes);rw [hr] at h2;injection h2 with h3
   subst h3;exact .inr rfl
section
variable {α:Type} {f:α->List Value} {k:Nat} {e:TypeId} {ok:World->α->Prop} {B:Nat} {l:List Nat} {w:World} {v:Value} {tr:List α}
theorem zNQ {P:Program} (hf:∀a,(f a).length=k) (hmono:Mono ok) (t ty:TypeId) (i:TypeInfo) (z:Value) (bytes:Nat) (ht:P.underlying t=some (.slice e)) (hi:P.info? e=some i) (hz:i.zero=some z)
 (hsize:i.size=k) (hby:i.bytes=bytes) (hzs:z.cells.size=k) (hsz:0<k) (hrow:RowOk f k e ok B l w v tr) (v2:Value) (news:List α) (hsrc:SrcAt w f v2 news) (hnews:∀x∈news,ok (hide (upL B (l++ownL v)) w) x) (h1:∀a∈news,∀u∈f a,u.oneCell'=true)
 (h63:tr.length+news.length<=maxLen) (hbytes:(tr.length+news.length)*bytes<=140737488355328) (hbase:B<=w.heap.size) (hlw:∀q∈l,q<w.heap.size):
 ∃v' w',(Builtin.append_ #[t,t] ty #[v,v2]).run P w= .ok v' w'/\RowOk f k e ok B l w' v' (tr++news)/\w.grownBy w' v.ownBlock:=by
 by_cases hn:news= []
 ·subst hn;have hv2:∃p c,v2= .slice p 0 c:=by
   rcases hsrc with ⟨_,p,c,h⟩|⟨b,o,c,h,_⟩
   ·exact⟨p,c,h⟩
   ·exact⟨_,_,h⟩
  obtain⟨p,c,rfl⟩:=hv2;refine⟨v,w,run_append_owned_empty B t ty e i k ht hi v _ _ hrow.own p c,?_,zCQ w _⟩;rw [List.append_nil];exact hrow
 ·have hx:∃b o c,v2= .slice (some ⟨b,o,none⟩) news.length c/\∀j u,(flatV f news)[j]? =some u->w.cell? ⟨b,o+j,none⟩=some u:=by
   rcases hsrc with ⟨h,_⟩|h
   ·exact absurd h hn
   ·exact h
  obtain⟨b,o,c,rfl,hcell⟩:=hx;have hpos:0<news.length:=List.length_pos_iff.2 hn;have hone:∀u∈flatV f news,u.oneCell'=true:=by
   intro u hu;obtain⟨a,ha,hu⟩:=List.mem_flatMap.1 hu;exact h1 a ha u hu
  have hcell2:∀j u,(flatV f news)[j]? =some u->w.cell? ((⟨b,o,none⟩:Addr).add j)=some u:=fun j u hj=>by
   have e:(⟨b,o,none⟩:Addr).add j=⟨b,o+j,none⟩:=by unfold Addr.add;split<;>simp_all
   rw [e];exact hcell j u hj
  have hlen:(flatV f news).length=news.length*k:=flatV_len f k hf news;obtain⟨v',w',hr,h2,h3,h4⟩:=run_append_own (P:=P) w B t ty e i z k bytes ht hi hz hsize hby hzs hsz v tr.length (flatV f tr) hrow.own ⟨b,o,none⟩ news.length c (flatV f news) hlen hcell2 hone h63 hbytes hbase;have h5:=zDW w B t ty e i z k bytes ht hi hz hsize hby v tr.length (flatV f tr) hrow.own ⟨b,o,none⟩ news.length c (flatV f news) hlen hpos hcell2 hone h63 hbytes v' w' hr;refine⟨v',w',hr,⟨?_,fun x hx=>?_,fun q hq he=>?_⟩,h3⟩
  ·rw [kN,flatV_append];exact h2
  ·have hall:ok (hide (upL B (l++ownL v)) w) x:=by
    rcases kU.1 hx with h|h
    ·exact hrow.rd x h
    ·exact hnews x h
   refine hmono _ _ _ (zBQ h3 (fun q hq=> .inr (kU.2 (.inr (zAL.2 hq)))) (fun q hlt hq=>?_)) hall;rcases hq with hq|hq
   ·exact .inl hq
   ·rcases kU.1 hq with hq|hq
    ·exact .inr (kU.2 (.inl hq))
    ·have hv:=zAL.1 hq;rcases h5 with h5|h5
     ·exact .inr (kU.2 (.inr (zAL.2 (h5▸hv))))
     ·rw [h5] at hv;injection hv with hv
      omega
  ·rcases h5 with h5|h5
   ·exact hrow.nin q hq (h5▸he)
   ·rw [h5] at he;injection he with he
    have:=hlw q hq;omega
theorem zBK {P:Program} (hf:∀a,(f a).length=k) (hmono:Mono ok)
 {ops:Array Oper} {rest:List Oper} {o:Oper} {a:Act} {Q:Exit->Act->World->Prop} (hgd:o.guard=none) (s x:Operand) (t:TypeId)
 (ho:o.op= .call { callee:= .builtin .append,args:= #[s,x],argTypes:= #[t,t] })
 (i:TypeInfo) (z:Value) (bytes:Nat) (ht:P.underlying t=some (.slice e)) (hi:P.info? e=some i) (hz:i.zero=some z)
 (hsize:i.size=k) (hby:i.bytes=bytes) (hzs:z.cells.size=k) (hsz:0<k) (v2:Value) (news:List α) (hs:a.eval s=v) (hx:a.eval x=v2) (hrow:RowOk f k e ok B l w v tr) (hsrc:SrcAt w f v2 news) (hnews:∀x∈news,ok (hide (upL B (l++ownL v)) w) x) (h1:∀a∈news,∀u∈f a,u.oneCell'=true)
 (h63:tr.length+news.length<=maxLen) (hbytes:(tr.length+news.length)*bytes<=140737488355328) (hbase:B<=w.heap.size)
 (h:∀v' w',RowOk f k e ok B l w' v' (tr++news)->w.grownBy w' v.ownBlock->wpList P ops Q rest (a.put o.dst v') w') (hlw:∀q∈l,q<w.heap.size:=by first|(intro q hq;cases hq;done)|(intro q hq;simp only [kV,List.not_mem_nil,or_false] at hq;omega)):wpList P ops Q (o::rest) a w:=
 wpList_plain hgd fun K hK=>by
  obtain⟨v',w',hr,h2,h3⟩:=zNQ (P:=P) hf hmono t o.type i z bytes ht hi hz hsize hby hzs hsz hrow v2 news hsrc hnews h1 h63 hbytes hbase hlw;unfold Oper.wp execOp;simp only [ho,resolve,invoke,builtin,Sem.run_bind,Sem.run_pure,Result.andThen_ok,List.map_toArray,List.map_cons,List.map_nil,hs,hx,hr];exact hK _ _ (h v' w' h2 h3)
end
theorem zR:Mono (zBD):=fun _ _ _ h hx=>⟨hx.1,hx.2.inc h⟩
theorem RowOk.hid {α:Type} {f:α->List Value} {k:Nat} {t:TypeId} {ok:World->α->Prop} {B:Nat} {l l':List Nat} {W:World} {v:Value} {tr:List α} (hmono:Mono ok) (h:RowOk f k t ok B l W v tr) (hl:∀q∈l',q∈l) (hv:∀q∈l',v.ownBlock≠some q):
 (hide (upL B l') W).ownsRow B t k v tr.length (flatV f tr)/\∀x∈tr,ok (hide (upL B l') W) x:=by
 refine⟨zCB h.own (fun q hq=>zCE (h.ge hq).1 (fun hm=>hv q hm hq)),fun x hx=>hmono _ _ _ (zEV (fun q _ hq=>?_)) (h.rd x hx)⟩;rcases hq with hq|hq
 ·exact .inl hq
 ·exact .inr (kU.2 (.inl (hl q hq)))
theorem RowOk.slE {B:Nat} {l l':List Nat} {W:World} {v:Value} {tr:List ET} (h:RowOk zAK 6 37 zBD B l W v tr) (hl:∀q∈l',q∈l) (hv:∀q∈l',v.ownBlock≠some q):SlE (hide (upL B l') W) v (tr.map Prod.fst):=by
 obtain⟨h1,h2⟩:=h.hid zR hl hv;exact zU2 h1 h2
theorem SrcAt.of_blk {α:Type} {f:α->List Value} {w:World} {G:Nat} {x:α} {t:TypeId} {cs:Array Value} (h:w.heap[G]? =some (.cells cs t (0,0))) (hcs:cs.toList=f x) {c:Nat}:SrcAt w f (.slice (some ⟨G,0,none⟩) 1 c) [x]:=by
 refine .inr ⟨G,0,c,rfl,fun j u hj=>?_⟩;rw [flatV_cons,flatV_nil,List.append_nil,<-hcs,Array.getElem?_toList] at hj;rw [Nat.zero_add];exact zB h hj
theorem RowOk.more {α:Type} {f:α->List Value} {k:Nat} {t:TypeId} {ok:World->α->Prop} {B:Nat} {l:List Nat} {W:World} {v:Value} {tr:List α} (hmono:Mono ok) (h:RowOk f k t ok B l W v tr) {X:Nat} (h2:W.heap.size<=X):RowOk f k t ok B (X::l) W v tr:=
 ⟨h.own,fun x hx=>hmono _ _ _ (zEV (fun q hq hm=>by
  rcases hm with hm|hm
  ·exact .inl hm
  ·rcases kV.1 hm with hm|hm
   ·omega
   ·exact .inr hm)) (h.rd x hx),fun q hq e=>by
  rcases kV.1 hq with rfl|hq
  ·have h3:=(h.ge e).2;omega
  ·exact h.nin q hq e⟩
abbrev Bk:=Nat × Array Value × TypeId
structure Gr (W:World) (o:List Nat) (W':World) (o':List Nat):Prop where
 os:W'.os=W.os
 tape:W'.tape=W.tape
 output:W'.output=W.output
 size:W.heap.size<=W'.heap.size
 keep:∀b,b<W.heap.size->b∉o->W'.heap[b]? =W.heap[b]?
 own:∀b∈o',b∈o\/W.heap.size<=b
section
variable {W W1 W2:World} {o o1 o2:List Nat}
theorem Gr.refl (W:World) (o:List Nat):Gr W o W o:=⟨rfl,rfl,rfl,kL _,fun _ _ _=>rfl,fun _ h=> .inl h⟩
theorem Gr.trans (h:Gr W o W1 o1) (k:Gr W1 o1 W2 o2):Gr W o W2 o2 where
 os:=k.os.trans h.os
 tape:=k.tape.trans h.tape
 output:=k.output.trans h.output
 size:=kG h.size k.size
 keep:=fun b hb hn=>(k.keep b (kP hb h.size) (fun hm=>by
  rcases h.own b hm with h2|h2
  ·exact hn h2
  ·omega)).trans (h.keep b hb hn)
 own:=fun b hb=>by
  rcases k.own b hb with h2|h2
  ·exact h.own b h2
  ·exact .inr (kG h.size h2)
theorem Gr.by {q:Nat} (h:W.grownBy W1 (some q)) (hq:q∈o):Gr W o W1 o:=⟨h.os,h.tape,h.output,h.size,fun b hb hn=>h.block b hb (fun e=>hn (by injection e with e;exact e▸hq)),fun _ h=> .inl h⟩
theorem Gr.below (h:Below W.heap.size W W1) (o:List Nat):Gr W o W1 o:=⟨h.os,h.tape,h.output,h.size,fun b hb _=>h.block b hb,fun _ h=> .inl h⟩
theorem Gr.fresh (h:Gr W [] W1 o1):Below W.heap.size W W1:=⟨h.os,h.tape,h.output,h.size,fun b hb=>h.keep b hb (by simp)⟩
theorem Gr.at (h:Gr W o W1 o1) {b:Nat} {x:Obj} (hb:W.heap[b]? =some x) (hn:b∉o):W1.heap[b]? =some x:=(h.keep b (Array.getElem?_eq_some_iff.1 hb).1 hn).trans hb
theorem Gr.wide (h:Gr W o W1 o1) (hs:∀b∈o2,b∈o1\/W.heap.size<=b):Gr W o W1 o2:=⟨h.os,h.tape,h.output,h.size,h.keep,fun b hb=>by
 rcases hs b hb with h2|h2
 ·exact h.own b h2
 ·exact .inr h2⟩
theorem Gr.more (h:Gr W o W1 o1) (hs:∀b∈o,b∈o2\/W.heap.size<=b):Gr W o2 W1 o1:=⟨h.os,h.tape,h.output,h.size,fun b hb hn=>h.keep b hb (fun hm=>by
 rcases hs b hm with h2|h2
 ·exact hn h2
 ·omega),fun b hb=>by
 rcases h.own b hb with h2|h2
 ·exact hs b h2
 ·exact .inr h2⟩
theorem Gr.inc (h:Gr W o W1 o1) (l:List Nat) {V:Nat}:Inc (hide (upL V (o++l)) W) (hide (upL V (o1++l)) W1):=by
 refine⟨by rw [zAW,zAW];exact h.size,fun b j v hc=>?_⟩;obtain⟨hs,hc⟩:=zQ hc;have hlt:=zAR hc;have hn:b∉o++l:=fun hm=>by
  rw [zB9.2 (.inr hm)] at hs;cases hs
 have hvb:V<=b:=by
  rcases Nat.lt_or_ge b V with h2|h2
  ·rw [zB9.2 (.inl h2)] at hs;cases hs
  ·exact h2
 have hn1:b∉o1++l:=fun hm=>by
  rcases kU.1 hm with hm|hm
  ·rcases h.own b hm with h2|h2
   ·exact hn (kU.2 (.inl h2))
   ·omega
  ·exact hn (kU.2 (.inr hm))
 rw [zBB (zCE hvb hn1)];have hb:=h.keep b hlt (fun hm=>hn (kU.2 (.inl hm)));unfold World.cell? at hc |-;rw [hb];exact hc
end
theorem zEG {l l':List Nat} {W:World} {V V':Nat} (hV:V'<=V) (h:∀b∈l',b∈l):Inc (hide (upL V l) W) (hide (upL V' l') W):=zEV fun q _ hq=>by
 rcases hq with hq|hq
 ·exact .inl (kP hq hV)
 ·exact .inr (h q hq)
theorem zBL {l:List Nat} {W:World} {V:Nat}:Inc (hide (upL V l) W) W:=zG5 _ _
theorem zM4 {l:List Nat} {W':World} {B V:Nat} (hV:V<=B) (h:∀b∈l,b<B):Inc (hide (upL B []) W') (hide (upL V l) W'):=zEV fun q _ hq=>by
 rcases hq with hq|hq
 ·exact .inl (kP hq hV)
 ·exact .inl (h q hq)
structure Mz (B0 V:Nat) (w:World) (o0:List Nat) (Q:World->Prop) (ow:List Nat) (bs:List Bk) (os:List (World->Prop)) (W:World):Prop where
 q:Q W
 pk:∀ {U U':World},U.heap.size<=U'.heap.size->(∀b,b<U.heap.size->(b∈ow\/b<B0)->U'.heap[b]? =U.heap[b]?)->Q U->Q U'
 hB:B0<=w.heap.size
 hV:V<=w.heap.size
 gr:Gr w o0 W ow
 ol:∀b∈ow,b<W.heap.size/\B0<=b
 bl:∀x∈bs,W.heap[x.1]? =some (.cells x.2.1 x.2.2 (0,0))/\w.heap.size<=x.1/\x.1∉ow
 nd:(bs.map Prod.fst).Nodup
 ro:∀r∈os,Mn r/\r (hide (upL V (ow++bs.map Prod.fst)) W)
section
variable {B0 V:Nat} {w W W':World} {o0 ow ow':List Nat} {Q Q':World->Prop} {bs:List Bk} {os:List (World->Prop)}
theorem Mz.b (h:Mz B0 V w o0 Q ow bs os W) (i:Nat) {X:Nat} {cs:Array Value} {t:TypeId} (hi:bs[i]? =some (X,cs,t)):W.heap[X]? =some (.cells cs t (0,0)):=(h.bl _ (kM hi)).1
theorem Mz.lt (h:Mz B0 V w o0 Q ow bs os W) (i:Nat) {X:Nat} {cs:Array Value} {t:TypeId} (hi:bs[i]? =some (X,cs,t)):w.heap.size<=X/\X<W.heap.size:=⟨(h.bl _ (kM hi)).2.1,lt_of_block (h.b i hi)⟩
theorem Mz.lts (h:Mz B0 V w o0 Q ow bs os W) {q:Nat} (hq:q∈bs.map Prod.fst):w.heap.size<=q/\q<W.heap.size/\q∉ow:=by
 obtain⟨x,hx,rfl⟩:=List.mem_map.1 hq;exact⟨(h.bl x hx).2.1,lt_of_block (h.bl x hx).1,(h.bl x hx).2.2⟩
theorem Mz.o (h:Mz B0 V w o0 Q ow bs os W) (i:Nat) {r:World->Prop} (hi:os[i]? =some r):r (hide (upL V (ow++bs.map Prod.fst)) W):=(h.ro _ (kM hi)).2
theorem Mz.rd (h:Mz B0 V w o0 Q ow bs os W) (i:Nat) {r:World->Prop} (hi:os[i]? =some r):r W:=(h.ro _ (kM hi)).1 _ _ zBL (h.o i hi)
theorem Mz.le (h:Mz B0 V w o0 Q ow bs os W):w.heap.size<=W.heap.size:=h.gr.size
theorem Mz.start {os:List (World->Prop)} (hq:Q w) (pk:∀ {U U':World},U.heap.size<=U'.heap.size->(∀b,b<U.heap.size->(b∈ow\/b<B0)->U'.heap[b]? =U.heap[b]?)->Q U->Q U') (hB:B0<=w.heap.size) (hV:V<=w.heap.size) (ol:∀b∈ow,b<w.heap.size/\B0<=b) (ro:∀r∈os,Mn r/\r (hide (upL V ow) w)):Mz B0 V w ow Q ow [] os w:=
 ⟨hq,pk,hB,hV,Gr.refl _ _,ol,(fun _ h=>by cases h),List.nodup_nil,fun r hr=>⟨(ro r hr).1,by rw [List.map_nil,List.append_nil];exact(ro r hr).2⟩⟩
theorem Mz.call (h:Mz B0 V w o0 Q ow bs os W) (hg:Gr W ow W' ow') (ho:∀b∈ow',b<W'.heap.size/\B0<=b) (hq:Q' W') (pk:∀ {U U':World},U.heap.size<=U'.heap.size->(∀b,b<U.heap.size->(b∈ow'\/b<B0)->U'.heap[b]? =U.heap[b]?)->Q' U->Q' U'):Mz B0 V w o0 Q' ow' bs os W' where
 q:=hq
 pk:=pk
 hB:=h.hB
 hV:=h.hV
 gr:=h.gr.trans hg
 ol:=ho
 bl:=fun x hx=>by
  obtain⟨h1,h2,h3⟩:=h.bl x hx;refine⟨hg.at h1 h3,h2,fun hm=>?_⟩;rcases hg.own _ hm with h4|h4
  ·exact h3 h4
  ·have:=lt_of_block h1;omega
 nd:=h.nd
 ro:=fun r hr=>⟨(h.ro r hr).1,(h.ro r hr).1 _ _ (hg.inc _) (h.ro r hr).2⟩
theorem Mz.below (h:Mz B0 V w o0 Q ow bs os W) (hb:Below W.heap.size W W'):Mz B0 V w o0 Q ow bs os W':=
 h.call (.below hb ow) (fun b hm=>⟨kP (h.ol b hm).1 hb.size,(h.ol b hm).2⟩) (h.pk hb.size (fun b hlt _=>hb.block b hlt) h.q) h.pk
theorem Mz.drew (h:Mz B0 V w o0 Q ow bs os W):Mz B0 V w o0 Q ow bs os W.drew:=h.below (zEH (zGA (zCQ _ _)))
theorem Mz.add (h:Mz B0 V w o0 Q ow bs os W) (hb:Below W.heap.size W W') {r:World->Prop} (hm:Mn r) (hr:r (hide (upL W.heap.size []) W')):Mz B0 V w o0 Q ow bs (r::os) W':=by
 have h1:=h.below hb;refine⟨h1.q,h1.pk,h1.hB,h1.hV,h1.gr,h1.ol,h1.bl,h1.nd,fun r' hr'=>?_⟩;rcases kV.1 hr' with rfl|hr'
 ·refine⟨hm,hm _ _ (zM4 (kG h.hV h.le) (fun b hb'=>?_)) hr⟩;rcases kU.1 hb' with hb'|hb'
  ·exact(h.ol b hb').1
  ·exact(h.lts hb').2.1
 ·exact h1.ro r' hr'
theorem Mz.get (h:Mz B0 V w o0 Q ow bs os W) {r:World->Prop} (hm:Mn r) (hr:r (hide (upL V (ow++bs.map Prod.fst)) W)):Mz B0 V w o0 Q ow bs (r::os) W:=
 ⟨h.q,h.pk,h.hB,h.hV,h.gr,h.ol,h.bl,h.nd,fun r' hr'=>by
  rcases kV.1 hr' with rfl|hr'
  ·exact⟨hm,hr⟩
  ·exact h.ro r' hr'⟩
theorem Mz.box (h:Mz B0 V w o0 Q ow bs os W) {X:Nat} (hX:X=W.heap.size) (cs:Array Value) (t:TypeId):Mz B0 V w o0 Q ow ((X,cs,t)::bs) os (W.alloc (.cells cs t)):=by
 have hb:=zD W (.cells cs t);have h1:=h.below hb;refine⟨h1.q,h1.pk,h1.hB,h1.hV,h1.gr,h1.ol,fun x hx=>?_,?_,fun r hr=>⟨(h1.ro r hr).1,(h.ro r hr).1 _ _ ?_ (h.ro r hr).2⟩⟩
 ·rcases kV.1 hx with rfl|hx
  ·exact⟨zQ2 hX.symm,by rw [hX];exact h.gr.size,fun hm=>by have:=(h.ol _ hm).1;omega⟩
  ·exact h1.bl x hx
 ·rw [List.map_cons,List.nodup_cons];refine⟨fun hm=>?_,h.nd⟩;have h2:=(h.lts hm).2.1;simp only at h2;omega
 ·refine zLV (row:=none) (zCH hb none) (fun _ e=>by cases e) (fun q hq hs=>?_);rcases zB9.1 hs with h2|h2
  ·exact zB9.2 (.inl h2)
  ·refine zB9.2 (.inr ?_);rcases kU.1 h2 with h3|h3
   ·exact kU.2 (.inl h3)
   ·rw [List.map_cons] at h3;rcases kV.1 h3 with h3|h3
    ·simp only at h3;omega
    ·exact kU.2 (.inr h3)
theorem Mz.boxE (h:Mz B0 V w o0 Q ow bs os W) (cs:Array Value) (t:TypeId):∃X W',Hid (X=W.heap.size)/\Hid (W'=W.alloc (.cells cs t))/\W.heap.size<=X/\Hid (Mz B0 V w o0 Q ow ((X,cs,t)::bs) os W'):=⟨_,_,zh rfl,zh rfl,kL _,zh (h.box rfl cs t)⟩
theorem Mz.boxR (h:Mz B0 V w o0 Q ow [] os w) (cs:Array Value) (t:TypeId):∃W',Hid (W'=w.alloc (.cells cs t))/\Hid (Mz B0 V w o0 Q ow [(w.heap.size,cs,t)] os W'):=⟨_,zh rfl,zh (h.box rfl cs t)⟩
theorem Mz.drewE (h:Mz B0 V w o0 Q ow bs os W):∃W',Hid (W'=W.drew)/\Hid (Mz B0 V w o0 Q ow bs os W'):=⟨_,zh rfl,zh h.drew⟩
theorem Mz.set (h:Mz B0 V w o0 Q ow bs os W) (i:Nat) {X:Nat} {cs cs':Array Value} {t:TypeId} (hi:bs[i]? =some (X,cs,t)) (hg:W.grownBy W' (some X)) (hn:W'.heap[X]? =some (.cells cs' t (0,0))):Mz B0 V w o0 Q ow (bs.set i (X,cs',t)) os W':=by
 have hl:=h.lt i hi;have hil:i<bs.length:=(kJ.1 hi).1;have hXm:X∈bs.map Prod.fst:=List.mem_map.2 ⟨_,kM hi,rfl⟩;have hXo:=(h.lts hXm).2.2;have hf:(bs.set i (X,cs',t)).map Prod.fst=bs.map Prod.fst:=by
  rw [List.map_set];refine List.ext_getElem? fun j=>?_
  rw [List.getElem?_set];by_cases hij:i=j
  ·subst hij;rw [kD rfl,kD (by rw [List.length_map];exact hil),List.getElem?_map,hi]
   rfl
  ·rw [kC hij]
 have hne:∀b,b∈ow\/b<B0->some b≠some X:=fun b hb=>ne_sm (fun e=>by
  subst e;rcases hb with hb|hb
  ·exact hXo hb
  ·have:=h.hB;omega)
 refine⟨h.pk hg.size (fun b hlt hb=>hg.block b hlt (hne b hb)) h.q,h.pk,h.hB,h.hV,?_,fun b hb=>⟨kP (h.ol b hb).1 hg.size,(h.ol b hb).2⟩,fun x hx=>?_,by rw [hf];exact h.nd,fun r hr=>?_⟩
 ·exact⟨hg.os.trans h.gr.os,hg.tape.trans h.gr.tape,hg.output.trans h.gr.output,kG h.gr.size hg.size,fun b hb hn=>(hg.block b (kP hb h.gr.size) (ne_sm (by omega))).trans (h.gr.keep b hb hn),h.gr.own⟩
 ·obtain⟨j,hj⟩:=List.mem_iff_getElem?.1 hx;rw [List.getElem?_set] at hj;by_cases hij:i=j
  ·rw [kD hij] at hj
   split at hj
   ·cases hj;exact⟨hn,hl.1,hXo⟩
   ·exact absurd hil ‹_›
  ·rw [kC hij] at hj;have hxb:=h.bl x (kM hj);refine⟨gr_at hg hxb.1 (ne_sm (fun e=>?_)),hxb.2⟩;have hi1:(bs.map Prod.fst)[i]? =some X:=by rw [List.getElem?_map,hi];rfl
   have hj1:(bs.map Prod.fst)[j]? =some X:=by rw [List.getElem?_map,hj];exact congrArg some e
   have hil2:i<(bs.map Prod.fst).length:=by rw [List.length_map];exact hil
   exact hij ((List.getElem?_inj hil2 h.nd).1 (hi1.trans hj1.symm))
 ·rw [hf];exact⟨(h.ro r hr).1,(h.ro r hr).1 _ _ (zBQ hg (fun q e=>by injection e with e;exact .inr (kU.2 (.inr (e▸hXm)))) (fun q _ hq=>hq)) (h.ro r hr).2⟩
theorem Mz.nrm {bs':List Bk} (h:Mz B0 V w o0 Q ow bs os W) (e:bs=bs'):Mz B0 V w o0 Q ow bs' os W:=e▸h
theorem Mz.sub {bs':List Bk} (h:Mz B0 V w o0 Q ow bs os W) (hs:bs'.Sublist bs):Mz B0 V w o0 Q ow bs' os W:=
 ⟨h.q,h.pk,h.hB,h.hV,h.gr,h.ol,fun x hx=>h.bl x (hs.subset hx),h.nd.sublist (hs.map _),fun r hr=>⟨(h.ro r hr).1,(h.ro r hr).1 _ _ (zEG (kL _) (fun b hb=>by
  rcases kU.1 hb with hb|hb
  ·exact kU.2 (.inl hb)
  ·exact kU.2 (.inr ((hs.map Prod.fst).subset hb)))) (h.ro r hr).2⟩⟩
theorem Mz.tl {x:Bk} (h:Mz B0 V w o0 Q ow (x::bs) os W):Mz B0 V w o0 Q ow bs os W:=h.sub (List.sublist_cons_self ..)
theorem Mz.few {os':List (World->Prop)} (h:Mz B0 V w o0 Q ow bs os W) (hs:∀r∈os',r∈os):Mz B0 V w o0 Q ow bs os' W:=⟨h.q,h.pk,h.hB,h.hV,h.gr,h.ol,h.bl,h.nd,fun r hr=>h.ro r (hs r hr)⟩
theorem Mz.fold {X:Nat} {cs:Array Value} {t:TypeId} (h:Mz B0 V w o0 Q ow ((X,cs,t)::bs) os W) {r:World->Prop} (hm:Mn r) (hr:∀U:World,U.heap[X]? =some (.cells cs t (0,0))->(∀(j:Nat) {o:World->Prop},os[j]? =some o->o U)->r U):Mz B0 V w o0 Q ow bs (r::os) W:=by
 have h2:=h.tl;have hlt:=h.lt 0 rfl;have hX:X∉ow++bs.map Prod.fst:=fun hm=>by
  rcases kU.1 hm with hm|hm
  ·exact(h.lts (q:=X) (by simp)).2.2 hm
  ·exact(List.nodup_cons.1 (by have:=h.nd;rw [List.map_cons] at this;exact this)).1 hm
 exact h2.get hm (hr _ ((zH7 (zCE (kG h.hV hlt.1) hX)).trans (h.b 0 rfl)) (fun j o ho=>h2.o j ho))
end
abbrev My (w:World) (bs:List Bk) (os:List (World->Prop)) (W:World):Prop:=Mz 0 w.heap.size w [] (fun _=>True) [] bs os W
theorem My.start (w:World):My w [] [] w:=Mz.start trivial (fun _ _ _=>trivial) (kO _) (kL _) (fun _ h=>by cases h) (fun _ h=>by cases h)
theorem My.fin {w W:World} {bs:List Bk} {os:List (World->Prop)} (h:My w bs os W):Below w.heap.size w W:=h.gr.fresh
theorem My.seen {w W:World} {bs:List Bk} {os:List (World->Prop)} (h:My w bs os W) (i:Nat) {r:World->Prop} (hi:os[i]? =some r):r (hide (upL w.heap.size []) W):=(h.ro _ (kM hi)).1 _ _ (zEG (kL _) (fun _ hb=>by cases hb)) (h.o i hi)
theorem zTU (W:World):Inc W (hide (upL 0 []) W):=⟨by rw [zAW];exact kL _,fun b o v hv=>by rw [zBB (zCE (kO _) (by simp))];exact hv⟩
theorem My.push {w W W':World} {bs:List Bk} {r:Option Nat} (h:My w bs [] W) (hg:W.grownBy W' r) (hr:∀q,r=some q->w.heap.size<=q/\q∉bs.map Prod.fst):My w bs [] W':=by
 refine⟨trivial,fun _ _ _=>trivial,h.hB,h.hV,?_,(fun _ h=>by cases h),fun x hx=>?_,h.nd,(fun _ h=>by cases h)⟩
 ·exact⟨hg.os.trans h.gr.os,hg.tape.trans h.gr.tape,hg.output.trans h.gr.output,kG h.gr.size hg.size,fun b hb hn=>(hg.block b (kP hb h.gr.size) (fun e=>by have:=(hr b e.symm).1;omega)).trans (h.gr.keep b hb hn),h.gr.own⟩
 ·obtain⟨h1,h2,h3⟩:=h.bl x hx;exact⟨gr_at hg h1 (fun e=>(hr x.1 e.symm).2 (List.mem_map.2 ⟨x,hx,rfl⟩)),h2,h3⟩
theorem My.row {w W:World} {bs:List Bk} {v:Value} {tr:List ET} (h:My w bs [] W) (hr:RowOk zAK 6 37 zBD w.heap.size (bs.map Prod.fst) W v tr):My w bs [fun U=>SlE U v (tr.map Prod.fst)] W:=
 h.get (fun _ _ hi hs=>hs.inc hi) (by
  have h1:=hr.slE (l':=bs.map Prod.fst) (fun _ h=>h) (fun q hq=>hr.nin q hq);rw [List.nil_append];exact h1)
end Cw
end Go.Proofs.YtcnmfcgmnkncaaaGreatDoor
namespace Go.Proofs.YtcnmfcgmnkncaaaGreatDoor
namespace Ck
open Tr
abbrev Str:=BA
def zAB (cs:List C) (nm:Str):Option Nat:=cs.findIdx? fun c=>decide (c.name=nm)
def zAM (ms:List M) (nm:Str):Option Nat:=ms.findIdx? fun m=>decide (m.name=nm)
def hasS (l:List Str) (s:Str):Bool:=l.any fun x=>decide (x=s)
def twice:List Str->Bool
 | []=>false
 |s::r=>hasS r s||twice r
mutual
def letsS:S->Nat
 | .mk k _ _ b l=>(if k=0 then 1 else 0)+lets b+lets l
def lets:List S->Nat
 | []=>0
 |s::r=>letsS s+lets r
end
def zA9:List E->Int
 | []=> -1
 |e::_=>e.kind
def ownE (cs:List C) (fs:List Str) (vars:List Str) (k:Int) (nm:Str) (a:Bool) (args:List E) (t:Nat):Bool:=
 if k=3 then t == 7 && !hasS vars nm
 else if k=4 then t == 10 && decide (zA9 args=2) && !hasS fs nm
 else if k=5 then
  match zAB cs nm with
  |none=>t == 8
  |some i=>t == 9 && decide (((cs[i]?.map fun c=>c.fields.length).getD 0:Int)<(args.length:Int) - (if a then 1 else 0))
 else false
mutual
def faultE (cs:List C) (fs:List Str) (vars:List Str):E->Nat->Bool
 | .mk k _ _ nm a l,t=>ownE cs fs vars k nm a l t||zAA cs fs vars l t
def zAA (cs:List C) (fs:List Str) (vars:List Str):List E->Nat->Bool
 | [],_=>false
 |e::r,t=>faultE cs fs vars e t||zAA cs fs vars r t
end
def ownS (c:C) (vars:List Str) (k:Int) (nm:Str) (x:List E) (t:Nat):Bool:=
 if k=0 then t == 6 && hasS vars nm
 else if k=1 then t == 7 && !hasS vars nm
 else if k=2 then t == 10 && decide (zA9 x=2) && !hasS c.fields nm
 else if k=8 then
  match zAM c.methods nm with
  |none=>t == 11
  |some i=>t == 12 && decide ((c.methods[i]?.map fun m=>m.params.length).getD 0≠1)
 else false
def addVar (k:Int) (nm:Str) (vars:List Str):List Str:=if k=0 then vars++ [nm] else vars
mutual
def faultS (cs:List C) (c:C):S->List Str->Nat->Bool
 | .mk k nm x b l,vars,t=>zAA cs c.fields vars x t||ownS c vars k nm x t||zA2 cs c b (addVar k nm vars) t||zA2 cs c l (addVar k nm vars) t
def zA2 (cs:List C) (c:C):List S->List Str->Nat->Bool
 | [],_,_=>false
 | .mk k nm x b l::r,vars,t=>faultS cs c (.mk k nm x b l) vars t||zA2 cs c r (addVar k nm vars) t
end
def faultM (cs:List C) (c:C) (k:Nat) (m:M) (t:Nat):Bool:=
 t == 4 && decide ((zAM c.methods m.name).getD 0<k)||
 t == 5 && decide (8<m.params.length\/30<m.params.length+lets m.body)||
 t == 6 && twice m.params||
 zA2 cs c m.body m.params t
def weak:Str:=⟨#[87,101,97,107]⟩
def faultC (cs:List C) (i:Nat) (c:C) (t:Nat):Bool:=
 t == 0 && i == 60||
 t == 1 && decide (30<c.fields.length\/30<c.methods.length)||
 t == 2 && (decide ((zAB cs c.name).getD 0<i)||decide (c.name=weak))||
 t == 3 && twice c.fields
def found (f:Nat->Bool):List Nat:=(List.range 13).filter f
structure F where
 line:Nat
 cls:Nat
 mth:Option Nat
def faultsM (cs:List C) (i:Nat) (c:C):List M->Nat->List F
 | [],_=> []
 |m::r,k=>(found (faultM cs c k m)).map (fun t=>⟨t,i,some k⟩)++faultsM cs i c r (k+1)
def faultsC (cs:List C):List C->Nat->List F
 | [],_=> []
 |c::r,i=>(found (faultC cs i c)).map (fun t=>⟨t,i,none⟩)++faultsM cs i c c.methods 0++faultsC cs r (i+1)
def faults (cs:List C):List F:=faultsC cs cs 0
def code (t:Nat):Nat:=
 if t=0\/t=1\/t=5 then 8 else if t=2\/t=3\/t=4\/t=6 then 5 else if t=9\/t=12 then 2 else 4
def check (cs:List C):List Nat:=if validP cs then(faults cs).map fun f=>code f.line else [1]
end Ck
end Go.Proofs.YtcnmfcgmnkncaaaGreatDoor
namespace Go.Proofs.YtcnmfcgmnkncaaaGreatDoor
namespace Co
open Tr
def wrap (n:Int):Int:=(n+2305843009213693952) % 4611686018427387904 -2305843009213693952
def const:E->Option Int
 | .mk k _ i _ _ l=>
   if k=0 then some i
   else if k=8 then
    match l with
    |x::_=>if x.kind=0/\0<x.int then some (-x.int) else none
    | []=>none
   else none
def num (n:Int):E:= .mk 0 0 n ⟨#[]⟩ false []
def repl (e:E) (n:Int):E:=if 0<=n then num n else if n= -2305843009213693952 then e else .mk 8 0 0 ⟨#[]⟩ false [num (-n)]
def bit (b:Bool):Int:=if b then 1 else 0
def calcO (o a b:Int):Option Int:=
 if o=0 then some (wrap (a+b)) else if o=1 then some (wrap (a -b)) else if o=2 then some (wrap (a*b))
 else if o=3 then(if b=0 then none else some (a.tdiv b)) else if o=4 then(if b=0 then none else some (a.tmod b))
 else if o=5 then some (bit (a == b)) else if o=6 then some (bit (a != b)) else if o=7 then some (bit (decide (a<b)))
 else if o=8 then some (bit (decide (a<=b))) else if o=9 then some (bit (decide (b<a))) else some (bit (decide (b<=a)))
def top (e:E):E:=
 match e with
 | .mk k o _ _ _ l=>
   if k=8\/k=9\/k=10 then
    match (l.head?.bind const:Option Int) with
    |none=>e
    |some a=>
     if k=8 then repl e (-a) else if k=9 then repl e (bit (a == 0))
     else if o=11/\a=0 then repl e 0 else if o=12/\a≠0 then repl e 1
     else
      match ((l.drop 1).head?.bind const:Option Int) with
      |none=>e
      |some b=>
       if o=11\/o=12 then repl e (bit (b != 0))
       else match calcO o a b with
        |some n=>repl e n
        |none=>e
   else e
mutual
def fold:E->E
 | .mk k o i nm a l=>top (.mk k o i nm a (zG l))
def zG:List E->List E
 | []=> []
 |e::r=>fold e::zG r
end
def foldV (e:E):E:=if zE e then fold e else e
structure G where
 code:List (Int × Int × Int)
 names:List BA
 vars:List (BA × Nat)
 locals:Nat
 depth:Int
 most:Int
 large:Bool
def emit (g:G) (o a b pops pushes:Int):G:= { g with code:=g.code++ [(o,a,b)],depth:=g.depth -pops+pushes,most:=max g.most (g.depth -pops+pushes) }
def patch (g:G) (i:Nat):G:= { g with code:=g.code.modify i fun x=>(x.1,(g.code.length:Int),x.2.2) }
def name (g:G) (s:BA):G × Nat:=
 match g.names.findIdx? fun x=>decide (x=s) with
 |some i=>(g,i)
 |none=>({ g with names:=g.names++ [s] },g.names.length)
def idx (l:List BA) (s:BA):Int:=
 match l.findIdx? fun x=>decide (x=s) with
 |some i=>i
 |none=> -1
def zBG (g:G) (s:BA):Int:=
 match g.vars.reverse.find? fun x=>decide (x.1=s) with
 |some x=>x.2
 |none=> -1
mutual
def gE (cs:List C) (fs:List BA) (g:G):E->G
 | .mk k o i nm a l=>
   match const (.mk k o i nm a l) with
   |some n=>emit g 0 n 0 0 1
   |none=>
    if k=1 then emit g 1 0 0 0 1
    else if k=2 then emit g 2 0 0 0 1
    else if k=3 then emit g 3 (zBG g nm) 0 0 1
    else if k=4 then
     (if Ck.zA9 l=2 then emit g 7 (idx fs nm) 0 0 1
      else emit (name (gEs cs fs g l) nm).1 6 (name (gEs cs fs g l) nm).2 0 1 1)
    else if k=5 then
     (if a then emit (gEs cs fs g l) 11 ((((Ck.zAB cs nm).getD 0:Nat):Int)+1) ((l.length:Int) - 1) l.length 1
      else emit (gEs cs fs g l) 10 ((((Ck.zAB cs nm).getD 0:Nat):Int)+1) l.length l.length 1)
    else if k=6 then emit (gEs cs fs g l) 12 0 0 1 1
    else if k=7 then emit (gEs cs fs g l) 13 0 0 1 1
    else if k=8 then emit (gEs cs fs g l) 14 0 0 1 1
    else if k=9 then emit (gEs cs fs g l) 15 0 0 1 1
    else if o=11 then gL cs fs g 19 0 l
    else if o=12 then gL cs fs g 20 1 l
    else emit (gEs cs fs g l) 16 o 0 2 1
def gEs (cs:List C) (fs:List BA) (g:G):List E->G
 | []=>g
 |e::r=>gEs cs fs (gE cs fs g e) r
def gL (cs:List C) (fs:List BA) (g:G) (j:Int) (endv:Int):List E->G
 |x::r=>
  let g1:=gE cs fs g x
  let g2:=emit g1 j 0 0 1 0
  let g3:=emit (gEs cs fs g2 r) 17 0 0 1 1
  let g4:=emit g3 18 0 0 0 0
  let g5:=patch { g4 with depth:=g4.depth -1 } g1.code.length
  patch (emit g5 0 endv 0 0 1) g3.code.length
 | []=>g
end
def shut (g0 g:G):G:= { g with vars:=g0.vars }
mutual
def gS (cs:List C) (fs:List BA) (g:G):S->G
 | .mk k nm x b l=>
   let e:=zG x
   if k=0 then
    let g1:=emit (gEs cs fs g (e.take 1)) 4 g.locals 0 1 0
    { g1 with vars:=g1.vars++ [(nm,g1.locals)],locals:=g1.locals+1 }
   else if k=1 then emit (gEs cs fs g (e.take 1)) 4 (zBG (gEs cs fs g (e.take 1)) nm) 0 1 0
   else if k=2 then
    (if Ck.zA9 e=2 then emit (gEs cs fs g (e.drop 1)) 9 (idx fs nm) 0 1 0
     else emit (name (gEs cs fs g e) nm).1 8 (name (gEs cs fs g e) nm).2 0 2 0)
   else if k=3 then
    let g1:=gEs cs fs g (e.take 1)
    let h:=emit g1 19 0 0 1 0
    let g2:=shut h (gSs cs fs h b)
    (if l.isEmpty then patch g2 g1.code.length
     else patch (shut g2 (gSs cs fs (patch (emit g2 18 0 0 0 0) g1.code.length) l)) g2.code.length)
   else if k=4 then
    let g1:=gEs cs fs g (e.take 1)
    let h:=emit g1 19 0 0 1 0
    patch (emit (shut h (gSs cs fs h b)) 18 g.code.length 0 0 0) g1.code.length
   else if k=5 then
    let g1:=name (gEs cs fs g e) nm
    emit { g1.1 with large:=g1.1.large||decide (8<e.length -1) } 21 g1.2 ((e.length:Int) - 1) e.length 0
   else if k=6 then emit (gEs cs fs g (e.take 1)) 22 0 0 1 0
   else if k=7 then emit (gEs cs fs g e) 23 0 0 2 0
   else if k=8 then emit (name (gEs cs fs g e) nm).1 24 (name (gEs cs fs g e) nm).2 0 2 0
   else emit g 25 0 0 0 0
def gSs (cs:List C) (fs:List BA) (g:G):List S->G
 | []=>g
 |s::r=>gSs cs fs (gS cs fs g s) r
end
def gB (cs:List C) (fs:List BA) (g:G) (l:List S):G:=shut g (gSs cs fs g l)
def vars0 (ps:List BA):List (BA × Nat):=ps.zipIdx
def gM (cs:List C) (c:C) (m:M):Option G:=
 let g:=emit (gB cs c.fields ⟨[],[],vars0 m.params,m.params.length,0,0,false⟩ m.body) 25 0 0 0 0
 if g.large=true\/4000<g.code.length\/1024<g.names.length\/64<g.most then none else some g
theorem zCK (e:E) (n:Int):repl e n=e\/(0<=n/\repl e n=num n)\/(n<0/\n≠ -2305843009213693952/\repl e n= .mk 8 0 0 ⟨#[]⟩ false [num (-n)]):=by
 unfold repl
 split
 ·exact .inr (.inl ⟨‹_›,rfl⟩)
 ·split
  ·exact .inl rfl
  ·exact .inr (.inr ⟨by omega,‹_›,rfl⟩)
theorem zSD (n:Int):const (num n)=some n:=rfl
theorem zN7 (n:Int):fold (num n)=num n:=by
 unfold num;rw [fold,zG]
 rfl
theorem zT0 {n:Int} (h:n<0) (h2:n≠ -2305843009213693952):fold (.mk 8 0 0 ⟨#[]⟩ false [num (-n)])= .mk 8 0 0 ⟨#[]⟩ false [num (-n)]:=by
 rw [fold,zG,zG,zN7];have h3:(([num (-n)].head?).bind const:Option Int)=some (-n):=zSD _;unfold top;dsimp only;rw [kD (Or.inl rfl)]
 split
 ·rename_i h4;rw [h3] at h4
 ·rename_i a h4;rw [h3] at h4;cases h4;rw [kD rfl];unfold repl;rw [kC (by omega),kC (by omega),Int.neg_neg]
theorem zGX (e:E):top e=e\/∃n,top e=repl e n:=by
 cases e with
 |mk k o i nm a l=>
  unfold top;dsimp only
  repeat' split
  all_goals first
   |exact .inl rfl
   |exact .inr ⟨_,rfl⟩
theorem zTZ {e:E} (h:zG e.args=e.args):fold (top e)=top e:=by
 have hs:top e=e->fold e=e:=fun h1=>by
  cases e with
  |mk k o i nm a l=>
   have h2:zG l=l:=h;rw [fold,h2];exact h1
 rcases zGX e with h1|⟨n,h1⟩
 ·rw [h1];exact hs h1
 ·rw [h1];rcases zCK e n with h2|⟨_,h2⟩|⟨h3,h4,h2⟩
  ·rw [h2];exact hs (h1.trans h2)
  ·rw [h2];exact zN7 n
  ·rw [h2];exact zT0 h3 h4
mutual
theorem zRV:∀e:E,fold (fold e)=fold e
 | .mk k o i nm a l=>by
   rw [fold];exact zTZ (zIE l)
theorem zIE:∀l:List E,zG (zG l)=zG l
 | []=>by rw [zG,zG]
 |e::r=>by rw [zG,zG,zRV e,zIE r]
end
theorem zAG:∀l:List E,(zG l).length=l.length
 | []=>by rw [zG]
 |e::r=>by rw [zG,kI,kI,zAG r]
theorem zN {k o i:Int} {nm:BA} {a:Bool} {l:List E} (h:zE (.mk k o i nm a l)=true):zT l=true/\okE k o i nm a l.length=true:=by
 rw [zE,kW] at h;exact h
theorem zKV {n:Int} (h0:0<=n) (h1:n<=2305843009213693951):zE (num n)=true:=by
 unfold num;rw [zE,zT,kF];unfold okE;simp [h0,h1]
 rfl
theorem zUJ {k o i:Int} {nm:BA} {a:Bool} {l:List E} (h:zE (.mk k o i nm a l)=true) (hk:k=0):0<=i/\i<=2305843009213693951:=by
 have h2:=(zN h).2;subst hk;unfold okE at h2;simp at h2;omega
theorem zCI {e:E} {a:Int} (h:zE e=true) (hc:const e=some a): -2305843009213693951<=a/\a<=2305843009213693951:=by
 cases e with
 |mk k o i nm at_ l=>
  unfold const at hc;dsimp only at hc
  split at hc
  ·cases hc;have:=zUJ h ‹_›;omega
  ·split at hc
   ·cases l with
    |nil=>cases hc
    |cons x r=>
     dsimp only at hc
     split at hc
     ·cases hc;have hx:=(zN h).1;rw [zT,kW] at hx;cases x with
      |mk k2 o2 i2 nm2 a2 l2=>
       have hk:k2=0:=(‹_/\_› :_/\_).1;have:=zUJ hx.1 hk
       show -2305843009213693951<= -i2/\ -i2<=2305843009213693951
       omega
     ·cases hc
   ·cases hc
theorem zF5 {e:E} {n:Int} (h:zE e=true) (h0: -2305843009213693952<=n) (h1:n<=2305843009213693951):zE (repl e n)=true:=by
 rcases zCK e n with h2|⟨h3,h2⟩|⟨h3,h4,h2⟩
 ·rw [h2];exact h
 ·rw [h2];exact zKV h3 h1
 ·rw [h2,zE,zT,zT,zKV (by omega) (by omega)]
  rfl
theorem zP3 (n:Int): -2305843009213693952<=wrap n/\wrap n<=2305843009213693951:=by unfold wrap;omega
theorem zSI (b:Bool): -2305843009213693952<=bit b/\bit b<=2305843009213693951:=by cases b<;>decide
theorem zKR {o a b n:Int} (ha: -2305843009213693951<=a/\a<=2305843009213693951) (h:calcO o a b=some n): -2305843009213693952<=n/\n<=2305843009213693951:=by
 unfold calcO at h;have hd:(a.tdiv b).natAbs<=a.natAbs:=by rw [Int.natAbs_tdiv];exact Nat.div_le_self ..
 have hm:(a.tmod b).natAbs<=a.natAbs:=by rw [Int.natAbs_tmod];exact Nat.mod_le ..
 repeat' split at h
 all_goals first
  |(cases h;exact zP3 _)
  |(cases h;exact zSI _)
  |(cases h;omega)
  |cases h
theorem zPG {l:List E} {a:Int} (h:zT l=true) (hc:(l.head?.bind const:Option Int)=some a): -2305843009213693951<=a/\a<=2305843009213693951:=by
 cases l with
 |nil=>cases hc
 |cons x r=>
  rw [zT,kW] at h;exact zCI h.1 hc
theorem zP7 {e:E} (h:zE e=true):zE (top e)=true:=by
 cases e with
 |mk k o i nm a l=>
  have hl:=(zN h).1;unfold top;dsimp only
  split
  ·split
   ·exact h
   ·have ha:=zPG hl ‹_›
    repeat' split
    all_goals first
     |exact h
     |exact zF5 h (by omega) (by omega)
     |exact zF5 h (zSI _).1 (zSI _).2
     |exact zF5 h (zKR ha ‹_›).1 (zKR ha ‹_›).2
  ·exact h
mutual
theorem zBY:∀e:E,zE e=true->zE (fold e)=true
 | .mk k o i nm a l,h=>by
   rw [fold];refine zP7 ?_;rw [zE,zU l (zN h).1,zAG,(zN h).2]
   rfl
theorem zU:∀l:List E,zT l=true->zT (zG l)=true
 | [],h=>by rw [zG];exact h
 |e::r,h=>by
  rw [zT,kW] at h;rw [zG,zT,zBY e h.1,zU r h.2]
  rfl
end
end Co
end Go.Proofs.YtcnmfcgmnkncaaaGreatDoor
