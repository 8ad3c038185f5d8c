/-
  Several texts in one: CoQue, CoSndW.
-/
import Derived.Below
import Derived.Deep.Slices
import Derived.Deep.Fields
import Derived.ChangeSame
import Derived.Laws.AppendOwn
import Derived.Laws.Rows
import Derived.WalkKit
import Derived.OneCell
import Derived.Lib.Hide
import Derived.Laws.AppendOwnNone
import Derived.Test.YtcnmfcgmnkncaaaGreatDoorS3
import Derived.Deep.AppendSrc
import Derived.Deep.OwnRows
namespace Go.Proofs.YtcnmfcgmnkncaaaGreatDoor
namespace Co
open Go.RowKit Go.Maps
def left:List Int→Nat
 | []=>0
 |x::r=>(if x= -1 then 1 else 0)+left r
theorem zUX:∀(l:List Int) (i:Nat) (x:Int),l[i]? =some (-1)→x≠ -1→left (l.set i x)+1=left l
 | [],i,x,h,_=>by simp at h
 |y::r,0,x,h,hx=>by
  have h:y= -1:=by simpa using h
  simp only [List.set_cons_zero,left,if_neg hx,if_pos h]
  omega
 |y::r,i+1,x,h,hx=>by
  have h:r[i]? =some (-1):=by simpa using h
  have:=zUX r i x h hx
  simp only [List.set_cons_succ,left]
  omega
theorem zU8:∀l:List Int,left l≤l.length
 | []=>Nat.le_refl _
 |x::r=>by
  have:=zU8 r
  simp only [left,List.length_cons]
  split<;>omega
structure Rch (D E:List Int) (todo:List Int):Prop where
 len:E.length=D.length
 dep:∀(i:Nat) (x:Int),E[i]? =some x→x= -1∨D[i]? =some x
 todo:∀x∈todo,∃i d:Nat,x=(i:Int)∧E[i]? =some (d:Int)∧D[i]? =some (d:Int)
theorem Rch.start {D:List Int} (h:D[0]? =some 0):Rch D ((List.replicate D.length (-1:Int)).set 0 0) [0]:=by
 have h0:0<D.length:=(List.getElem?_eq_some_iff.1 h).1
 refine⟨by simp,fun i x hx=>?_,fun x hx=>?_⟩
 ·rw [List.getElem?_set] at hx
  by_cases hi:0=i
  ·subst hi
   rw [if_pos rfl,if_pos (by simpa using h0)] at hx
   injection hx with hx
   subst hx
   exact .inr h
  ·rw [if_neg hi,List.getElem?_replicate] at hx
   split at hx
   ·injection hx with hx
    exact .inl hx.symm
   ·cases hx
 ·rw [List.mem_singleton] at hx
  subst hx
  exact⟨0,0,rfl,by rw [List.getElem?_set,if_pos rfl,if_pos (by simpa using h0)];rfl,h⟩
theorem Rch.tail {D E t:List Int} {x:Int} (h:Rch D E (x::t)):Rch D E t:=⟨h.len,h.dep,fun y hy=>h.todo y (List.mem_cons_of_mem _ hy)⟩
theorem Rch.add {D E t:List Int} (h:Rch D E t) {i d:Nat} (hD:D[i]? =some (d:Int)):Rch D (E.set i d) (t++ [(i:Int)]):=by
 have hi:i<E.length:=by rw [h.len];exact(List.getElem?_eq_some_iff.1 hD).1
 have hs:(E.set i (d:Int))[i]? =some (d:Int):=by rw [List.getElem?_set,if_pos rfl,if_pos hi]
 refine⟨by rw [List.length_set];exact h.len,fun j x hx=>?_,fun x hx=>?_⟩
 ·by_cases hj:i=j
  ·subst hj
   rw [hs] at hx
   injection hx with hx
   exact .inr (hx▸hD)
  ·rw [List.getElem?_set,if_neg hj] at hx
   exact h.dep j x hx
 ·rcases List.mem_append.1 hx with hx|hx
  ·obtain⟨j,e,h1,h2,h3⟩:=h.todo x hx
   by_cases hj:i=j
   ·subst hj
    exact⟨i,d,h1,hs,hD⟩
   ·exact⟨j,e,h1,by rw [List.getElem?_set,if_neg hj];exact h2,h3⟩
  ·rw [List.mem_singleton] at hx
   exact⟨i,d,hx,hs,hD⟩
theorem Good.next {cs:List Tr.C} {fs:List ByteArray} {g:G} {D:List Int} (h:Good cs fs g D) {i:Nat} {o a b d:Int} (hc:g.code[i]? =some (o,a,b)) (hD:D[i]? =some d):
 ∀t∈Cw.tgts (o,a,b) i,∃j m:Nat,t=(j:Int)∧D[j]? =some (m:Int)∧(m:Int)=d -pops o b+pushes o∧m≤64:=by
 have key:∀j:Nat,D[j]? =some (d -pops o b+pushes o)→∃m:Nat,D[j]? =some (m:Int)∧(m:Int)=d -pops o b+pushes o∧m≤64:=fun j hj=>by
  have:=h.nn j _ hj
  refine⟨(d -pops o b+pushes o).toNat,?_,by omega,by omega⟩
  rw [show (((d -pops o b+pushes o).toNat:Nat):Int)=d -pops o b+pushes o by omega]
  exact hj
 have hfall:o≠18→o≠25→∃j m:Nat,(i:Int)+1=(j:Int)∧D[j]? =some (m:Int)∧(m:Int)=d -pops o b+pushes o∧m≤64:=fun h1 h2=>by
  obtain⟨m,hm⟩:=key (i+1) (h.fall i o a b d hc hD h1 h2)
  exact⟨i+1,m,by omega,hm⟩
 have hjump:Jp o→∃j m:Nat,a=(j:Int)∧D[j]? =some (m:Int)∧(m:Int)=d -pops o b+pushes o∧m≤64:=fun h1=>by
  obtain⟨h2,h3⟩:=h.jump i o a b d hc hD h1
  obtain⟨m,hm⟩:=key _ h3
  exact⟨a.toNat,m,by omega,hm⟩
 intro t ht
 unfold Cw.tgts at ht
 dsimp only at ht
 by_cases h25:o=25
 ·rw [if_pos h25] at ht
  cases ht
 rw [if_neg h25] at ht
 by_cases h18:o=18
 ·rw [if_pos h18,List.mem_singleton] at ht
  obtain⟨j,m,h1,h2⟩:=hjump (by subst h18;decide)
  exact⟨j,m,ht.trans h1,h2⟩
 rw [if_neg h18] at ht
 by_cases h19:o=19∨o=20
 ·rw [if_pos h19] at ht
  rcases List.mem_cons.1 ht with ht|ht
  ·obtain⟨j,m,h1,h2⟩:=hfall h18 h25
   exact⟨j,m,ht.trans h1,h2⟩
  ·rw [List.mem_singleton] at ht
   obtain⟨j,m,h1,h2⟩:=hjump (by rcases h19 with rfl|rfl<;>decide)
   exact⟨j,m,ht.trans h1,h2⟩
 ·rw [if_neg h19,List.mem_singleton] at ht
  obtain⟨j,m,h1,h2⟩:=hfall h18 h25
  exact⟨j,m,ht.trans h1,h2⟩
theorem Good.step {cs:List Tr.C} {fs:List ByteArray} {g:G} {D:List Int} (h:Good cs fs g D) {i d:Nat} {o a b:Int} (hb:0≤b) (hc:g.code[i]? =some (o,a,b)) (hD:D[i]? =some (d:Int)):
 ∃KP e1 KQ e2:Nat,pops o b=(KP:Int)∧pushes o=(KQ:Int)∧e1+KP=d∧e2=e1+KQ∧KQ≤1∧d≤64∧e2≤64∧∀t∈Cw.tgts (o,a,b) i,∃j:Nat,t=(j:Int)∧D[j]? =some (e2:Int):=by
 have hd:=h.nn i _ hD
 have hp:=h.pop i o a b _ hc hD
 have hq:=zPI o
 have hp0:0≤pops o b:=by unfold pops;repeat' split;all_goals omega
 have hn:=h.next hc hD
 have h64:(d:Int) - pops o b+pushes o≤64:=by
  by_cases h25:o=25
  ·subst h25
   rw [show pops 25 b=0 from rfl,show pushes 25=0 from rfl]
   omega
  ·have:∃t,t∈Cw.tgts (o,a,b) i:=by
    unfold Cw.tgts
    dsimp only
    rw [if_neg h25]
    split
    ·exact⟨_,List.mem_cons_self ..⟩
    ·split
     ·exact⟨_,List.mem_cons_self ..⟩
     ·exact⟨_,List.mem_cons_self ..⟩
   obtain⟨t,ht⟩:=this
   obtain⟨j,m,_,_,h3,h4⟩:=hn t ht
   omega
 refine⟨(pops o b).toNat,d -(pops o b).toNat,(pushes o).toNat,d -(pops o b).toNat+(pushes o).toNat,by omega,by omega,by omega,rfl,by omega,by omega,by omega,fun t ht=>?_⟩
 obtain⟨j,m,h1,h2,h3,h4⟩:=hn t ht
 have:m=d -(pops o b).toNat+(pushes o).toNat:=by omega
 subst this
 exact⟨j,h1,h2⟩
end Co
namespace Cw
open Go.RowKit Go.Maps Pw
structure Qu (k n c:Nat) (cs:Array Value) (l:List Int):Prop where
 len:l.length=n
 le:n≤c
 fit:k+c≤cs.size
 at_:∀(j:Nat) (x:Int),l[j]? =some x→cs[k+j]? =some (.int .i64 x)
theorem Qu.tail {k n c:Nat} {cs:Array Value} {x:Int} {l:List Int} (h:Qu k (n+1) c cs (x::l)):Qu (if c=1 then k else k+1) n (c -1) cs l:=by
 have hl:=h.len
 have h1:=h.le
 have h2:=h.fit
 rw [List.length_cons] at hl
 refine⟨by omega,by omega,by split<;>omega,fun j y hj=>?_⟩
 have hj2:=(List.getElem?_eq_some_iff.1 hj).1
 have:=h.at_ (j+1) y (by rw [List.getElem?_cons_succ];exact hj)
 rw [if_neg (by omega),show k+1+j=k+(j+1) by omega]
 exact this
theorem zU5 {P:Program} {B0 V:Nat} {w:World} {o0:List Nat} {Q:World→Prop} {ow:List Nat} {bs:List Bk} {os:List (World→Prop)} {W:World} {T k n c:Nat} {cs:Array Value} {l:List Int} (t ty e:TypeId) (i:TypeInfo) (ht:P.underlying t=some (.slice e)) (hi:P.info? e=some i) (hz:i.zero=some (.int .i64 0)) (hs:i.size=1) (hb:i.bytes=8)
 (h:Mz B0 V w o0 Q ow ((T,cs,e)::bs) os W) (q:Qu k n c cs l) (hn:n≤100000) {v2:Value} {x:Int} (hsrc:Src P i.size t v2 1 [.int .i64 x] W):
 ∃v' W',(Builtin.append_ #[t,t] ty #[.slice (some ⟨T,k,none⟩) n c,v2]).run P W= .ok v' W'∧∃T' k' c' cs',v'= .slice (some ⟨T',k',none⟩) (n+1) c'∧Qu k' (n+1) c' cs' (l++ [x])∧Hid (Mz B0 V w o0 Q ow ((T',cs',e)::bs) os W'):=by
 have hT:=h.b 0 rfl
 have hfit:=q.fit
 have hle:=q.le
 have hlen:=q.len
 have hcell:∀j,k+j<cs.size→∃v,W.cell? ⟨T,k+j,none⟩=some v:=fun j hj=>⟨_,zB hT (Array.getElem?_eq_getElem hj)⟩
 by_cases hroom:n+1≤c
 ·have h1:=run_append_room_src (w:=W) t t ty e i ht hi T k n c v2 1 [.int .i64 x] hsrc hroom (fun j hj=>by
   have hj:j=0:=by simpa using hj
   subst hj
   rw [hs,Nat.mul_one,Nat.add_zero]
   obtain⟨v,hv⟩:=hcell n (by omega)
   rw [hv];rfl) (fun j hj=>zI hT _)
  refine⟨_,_,h1,T,k,c,cs.setIfInBounds (k+n) (.int .i64 x),rfl,⟨by rw [List.length_append,hlen];rfl,hroom,by simpa using hfit,fun j y hj=>?_⟩,?_⟩
  ·rw [Array.getElem?_setIfInBounds]
   by_cases hjn:n=j
   ·subst hjn
    rw [if_pos rfl,if_pos (by omega)]
    rw [List.getElem?_append_right (by omega),hlen,Nat.sub_self] at hj
    injection hj with hj
    rw [hj]
   ·rw [if_neg (by omega)]
    have hjl:j<l.length:=by
     have:=(List.getElem?_eq_some_iff.1 hj).1
     rw [List.length_append,List.length_singleton] at this
     omega
    rw [List.getElem?_append_left hjl] at hj
    exact q.at_ j y hj
  ·rw [hs,Nat.mul_one]
   exact zh (h.set 0 rfl (zH _ _ _ _) (heap_set (j:=k+n) _ hT))
 ·have hg:c<n+1:=by omega
  have hold:=run_firstCells_some (P:=P) W.drew i.size n ⟨T,k,none⟩ n c (l.map (fun x=> .int .i64 x)) (by rw [List.length_map,hs,hlen,Nat.mul_one]) (fun j u hj=>by
   rw [List.getElem?_map] at hj
   cases hl:l[j]? with
   |none=>rw [hl] at hj;cases hj
   |some y=>
    rw [hl] at hj
    injection hj with hj
    subst hj
    have h9:=zB hT (q.at_ j y hl)
    have e:(⟨T,k,none⟩:Addr).add j=⟨T,k+j,none⟩:=by unfold Addr.add;split<;>simp_all
    rw [e]
    exact h9)
  have h1:=run_append_grow_src (w:=W) t t ty e i (.int .i64 0) ht hi hz (some ⟨T,k,none⟩) n c _ hold v2 1 [.int .i64 x] hsrc hg (by omega) (growslice_fits hg (by rw [hb];omega))
  have hge:=grownCap_ge W (n+1) c e
  refine⟨_,_,h1,W.heap.size,0,grownCap W (n+1) c e,_,rfl,⟨by rw [List.length_append,hlen];rfl,hge,?_,fun j y hj=>?_⟩,zh ((h.drew.box (X:=W.heap.size) rfl _ e).sub ((List.sublist_cons_self ..).cons_cons _))⟩
  ·simp [Builtin.zeroCells,Value.cells,hlen]
   omega
  ·have hjl:=(List.getElem?_eq_some_iff.1 hj).1
   rw [Nat.zero_add,Array.getElem?_append_left (by simpa using hjl),List.getElem?_toArray]
   show(l.map (fun x=>Value.int .i64 x)++ [Value.int .i64 x])[j]? =some (.int .i64 y)
   rw [show l.map (fun x=>Value.int .i64 x)++ [Value.int .i64 x]=(l++ [x]).map (fun x=>Value.int .i64 x) by rw [List.map_append];rfl,List.getElem?_map,hj]
   rfl
theorem Mz.perm {B0 V:Nat} {w:World} {o0:List Nat} {Q:World→Prop} {ow:List Nat} {bs bs':List Bk} {os:List (World→Prop)} {W:World} (h:Mz B0 V w o0 Q ow bs os W) (hp:bs'.Perm bs):Mz B0 V w o0 Q ow bs' os W:=
 ⟨h.q,h.pk,h.hB,h.hV,h.gr,h.ol,fun x hx=>h.bl x (hp.subset hx),(hp.map Prod.fst).nodup_iff.2 h.nd,fun r hr=>⟨(h.ro r hr).1,(h.ro r hr).1 _ _ (zEH (Nat.le_refl _) (fun b hb=>by
  rcases List.mem_append.1 hb with hb|hb
  ·exact List.mem_append.2 (.inl hb)
  ·exact List.mem_append.2 (.inr ((hp.map Prod.fst).subset hb)))) (h.ro r hr).2⟩⟩
def dC (E:List Int):Array Value:=(E.map (fun x=>Value.int .i64 x)).toArray
theorem dC_get {E:List Int} {i:Nat} {x:Int} (h:E[i]? =some x):(dC E)[i]? =some (.int .i64 x):=by
 unfold dC
 rw [List.getElem?_toArray,List.getElem?_map,h]
 rfl
theorem dC_set (E:List Int) (i:Nat) (x:Int):(dC E).setIfInBounds i (.int .i64 x)=dC (E.set i x):=by
 unfold dC
 rw [List.setIfInBounds_toArray,List.map_set]
theorem Mz.dcell {B0 V:Nat} {w:World} {o0:List Nat} {Q:World→Prop} {ow:List Nat} {bs:List Bk} {os:List (World→Prop)} {W:World} (h:Mz B0 V w o0 Q ow bs os W) (i:Nat) {X:Nat} {E:List Int} {t:TypeId} (hi:bs[i]? =some (X,dC E,t)) {j:Nat} {x:Int} (hx:E[j]? =some x):X<W.heap.size∧W.cell? ⟨X,j,none⟩=some (.int .i64 x)∧W.frozen? ⟨X,j,none⟩=false:=
 ⟨lt_of_block (h.b i hi),zB (h.b i hi) (dC_get hx),zI (h.b i hi) j⟩
theorem Mz.put {B0 V:Nat} {w:World} {o0:List Nat} {Q:World→Prop} {ow:List Nat} {bs:List Bk} {os:List (World→Prop)} {W:World} (h:Mz B0 V w o0 Q ow bs os W) (i:Nat) {X:Nat} {E:List Int} {t:TypeId} (hi:bs[i]? =some (X,dC E,t)) (j:Nat) (x:Int):∃W',Hid (W'=W.setCell ⟨X,j,none⟩ (.int .i64 x))∧Hid (Mz B0 V w o0 Q ow (bs.set i (X,dC (E.set j x),t)) os W'):=by
 have h1:=h.set i hi (zH W X j (.int .i64 x)) (heap_set (j:=j) (.int .i64 x) (h.b i hi))
 rw [dC_set] at h1
 exact⟨_,zh rfl,zh h1⟩
theorem zVH (n:Nat):madeCells #[.int .i64 0] n=dC (List.replicate n 0):=by
 refine Array.ext_getElem? fun j=>?_
 unfold dC
 rw [List.getElem?_toArray (xs:=(List.replicate n 0).map _),List.getElem?_map,List.getElem?_replicate]
 by_cases hj:j<n
 ·rw [if_pos hj,Array.getElem?_eq_getElem (by rw [size_madeCells];exact hj)]
  simp [madeCells,Nat.mod_one]
 ·rw [if_neg hj,Array.getElem?_eq_none (by rw [size_madeCells];omega)]
  rfl
theorem SlN.get {W:World} {p:Option Addr} {n c:Nat} {l:List Int} (h:SlN W (.slice p n c) l) {j:Nat} {x:Int} (hj:l[j]? =some x):∃b o,p=some ⟨b,o,none⟩∧b<W.heap.size∧W.cell? ⟨b,o+j,none⟩=some (.int .i64 x):=by
 obtain⟨p',c',e,hx⟩:=h
 cases e
 exact hx j x hj
theorem SlN.form {W:World} {v:Value} {l:List Int} (h:SlN W v l):∃p c,v= .slice p l.length c:=by
 obtain⟨p,c,e,_⟩:=h
 exact⟨p,c,e⟩
theorem zUN {P:Program} {B0 V:Nat} {w:World} {o0:List Nat} {Q0:World→Prop} {ow:List Nat} {bs:List Bk} {os:List (World→Prop)} {W:World} {T k n c:Nat} {cs:Array Value} {l:List Int} {ops:Array Oper} {rest:List Oper} {o:Oper} {a:Act} {Q:Exit→Act→World→Prop} (hgd:o.guard=none) (s x:Operand) (t e:TypeId) (ho:o.op= .call { callee:= .builtin .append,args:= #[s,x],argTypes:= #[t,t] })
 (i:TypeInfo) (ht:P.underlying t=some (.slice e)) (hi:P.info? e=some i) (hz:i.zero=some (.int .i64 0)) (hs:i.size=1) (hb:i.bytes=8) (ev:a.eval s= .slice (some ⟨T,k,none⟩) n c) {v2:Value} {y:Int} (ex:a.eval x=v2)
 (h:Mz B0 V w o0 Q0 ow ((T,cs,e)::bs) os W) (q:Qu k n c cs l) (hn:n≤100000) (hsrc:Src P i.size t v2 1 [.int .i64 y] W)
 (hK:∀T' k' c' cs' W',Qu k' (n+1) c' cs' (l++ [y])→Hid (Mz B0 V w o0 Q0 ow ((T',cs',e)::bs) os W')→wpList P ops Q rest (a.put o.dst (.slice (some ⟨T',k',none⟩) (n+1) c')) W'):wpList P ops Q (o::rest) a W:=
 wpList_plain hgd fun K hK'=>by
  obtain⟨v',W',hr,T',k',c',cs',rfl,h2,h3⟩:=zU5 (P:=P) t o.type e i ht hi hz hs hb h q hn hsrc
  unfold Oper.wp execOp
  simp only [ho,resolve,invoke,builtin,Sem.run_bind,Sem.run_pure,Result.andThen_ok,List.map_toArray,List.map_cons,List.map_nil,ev,ex,hr]
  exact hK' _ _ (hK T' k' c' cs' W' h2 h3)
end Cw
end Go.Proofs.YtcnmfcgmnkncaaaGreatDoor
namespace Go.Proofs.YtcnmfcgmnkncaaaGreatDoor
namespace Cw
open Go.RowKit Go.Maps Pw
theorem iInfo:(Tryz.prog.info? 3).map (fun i=>(i.zero,i.size,i.bytes))=some (some (.int .i64 0),1,8):=by kernel_rfl
set_option maxRecDepth 100000 in
set_option maxHeartbeats 4000000 in
theorem zU4 {cs:List Tr.C} {fs:List ByteArray} {g:Co.G} {D:List Int} (hG:Co.Good cs fs g D) (hv:∀x∈g.code,Vd x) (hn:g.code.length≤4000) (nm:ByteArray) (pa lo:Int) (v nv:Value) (w:World) (hC:SlI w v g.code) (hnv:∃p n c,nv= .slice p n c):
 Calls Tryz.prog 29 #[.agg #[.string nm,.int .i64 pa,.int .i64 lo,v,nv]] w fun e w'=>e= .returned (.bool true)∧Below w.heap.size w w':=by
 have hC0:=hC
 obtain⟨pI,cI,rfl,_⟩:=hC.form
 obtain⟨pn,NN,cn,rfl⟩:=hnv
 obtain⟨LN,hLN⟩:∃q,g.code.length=q:=⟨_,rfl⟩
 rw [hLN] at hC0 hn ⊢
 have h0:0<LN:=by rw [←hLN,←hG.len];exact(List.getElem?_eq_some_iff.1 hG.zero).1
 have HG:=zh hG
 have HC:=zh hC0
 have HLN:=zh hLN
 have HV:=zh hv
 clear hC hC0 hLN hv hG
 obtain⟨i0,hi0,hz0,hz1,hz2⟩:=info_parts iInfo
 have C0:=zh (My.start w)
 obtain⟨M,w1,HX1,HW1,hx1,C1⟩:=C0.out.boxE #[.string nm,.int .i64 pa,.int .i64 lo,.slice pI LN cI,.slice pn NN cn] 59
 go_enter Tryz.func29,Tryz.ntmps29
 go_upto_region 1 with fail
 rw [←HX1.out,←HW1.out]
 clear HX1 HW1 C0
 have hq0:((LN:Int) == 0)=false:=beq_eq_false_iff_ne.2 (by omega)
 have hq1:¬(4000:Int)<(LN:Int):=by omega
 have q0:=cells5 (C1.out.b 0 rfl)
 go_upto_region 3 with fail
 clear q0
 have q0:=cells5 (C1.out.b 0 rfl)
 go_wp2_with (at_make;refine wpList_make_row w1 rfl _ _ 93 rfl 3 i0 (.int .i64 0) Tryz.underlying93 hi0 hz0 hz1 rfl .i64 .i64 LN rfl rfl (by rw [hz2];omega) (by omega) ?_;obtain⟨Dp,w9,HX,HW,hx9,C9⟩:=C1.out.boxE (dC (List.replicate LN 0)) 3;rw [zVH,←HX.out,←HW.out];clear HX HW C1 q0)
 clear hq0 hq1
 go_loopg [4] LN (fun gg s4 wr=>∃(j:Nat) (E:List Int),s4= .int .i64 j∧j≤LN∧gg=LN -j∧Hid (E.length=LN∧∀i,i<j→E[i]? =some (-1))∧Hid (My w [(Dp,dC E,3),(M,#[.string nm,.int .i64 pa,.int .i64 lo,.slice pI LN cI,.slice pn NN cn],59)] [] wr))
 case atStart=>exact ⟨0,_,rfl,Nat.zero_le _,rfl,zh ⟨List.length_replicate,fun i hi=>absurd hi (Nat.not_lt_zero i)⟩,C9⟩
 case round=>
  clear C9
  obtain⟨j,E,rfl,hj,rfl,HE,CR⟩:=hrel
  obtain⟨w_,hw_⟩:∃q,q=wr:=⟨_,rfl⟩
  rw [←hw_] at CR ⊢
  clear hw_
  by_cases hlt:j<LN
  ·obtain⟨x,hx⟩:∃x,E[j]? =some x:=⟨_,List.getElem?_eq_getElem (by rw [HE.out.1];exact hlt)⟩
   have q0:=CR.out.dcell 0 rfl hx
   obtain⟨w2,HW,C2⟩:=CR.out.put 0 rfl j (-1)
   have hj0:(0:Int)≤(j:Int):=by omega
   have hj1:(j:Int)<(LN:Int):=by omega
   go_wp2_with fail
   rw [←HW.out]
   go_roundg (LN -(j+1))
   case measure=>omega
   case rel=>exact ⟨j+1,E.set j (-1),by go_num,by omega,rfl,zh ⟨by rw [List.length_set];exact HE.out.1,fun i hi=>by
    rw [List.getElem?_set]
    by_cases hij:j=i
    ·rw [if_pos hij,if_pos (by rw [HE.out.1];exact hlt)]
    ·rw [if_neg hij];exact HE.out.2 i (by omega)⟩,C2⟩
  ·obtain rfl:LN=j:=by omega
   have hE:E=List.replicate LN (-1):=List.ext_getElem? fun i=>by
    rw [List.getElem?_replicate]
    by_cases hi:i<LN
    ·rw [if_pos hi];exact HE.out.2 i hi
    ·rw [if_neg hi];exact List.getElem?_eq_none (by rw [HE.out.1];omega)
   subst hE
   clear HE hj hlt
   have hx:(List.replicate LN (-1:Int))[0]? =some (-1):=by rw [List.getElem?_replicate,if_pos h0]
   have q0:=CR.out.dcell 0 rfl hx
   obtain⟨w3,HW,C3⟩:=CR.out.put 0 rfl 0 0
   have hj1:(0:Int)<(LN:Int):=by omega
   go_upto_region 9 with fail
   rw [←HW.out]
   clear HW CR q0 hx
   have hr9:=Co.Rch.start HG.out.zero
   rw [HG.out.len,HLN.out] at hr9
   obtain⟨E0,hE0⟩:∃q,(List.replicate LN (-1:Int)).set 0 0=q:=⟨_,rfl⟩
   have hle:=Co.zU8 E0
   rw [←hE0] at hle
   rw [List.length_set,List.length_replicate,hE0] at hle
   rw [hE0] at hr9
   have C4:Hid (My w [(Dp,dC E0,3),(M,#[.string nm,.int .i64 pa,.int .i64 lo,.slice pI LN cI,.slice pn NN cn],59)] [] w3):=zh (hE0▸C3.out)
   have HR:=zh hr9
   clear hr9 C3 hE0
   obtain⟨T0,w5,HX,HW,hx5,C5⟩:=C4.out.boxE #[.int .i64 0] 3
   go_wp2_with fail
   rw [←HX.out,←HW.out]
   clear HX HW C4
   go_loopg [5] (Co.left E0+1) (fun gg s5 wr=>∃(E todo:List Int) (T k n c:Nat) (cs_:Array Value),s5= .slice (some ⟨T,k,none⟩) n c∧gg=Co.left E+n∧Co.left E+n≤4001∧Hid (Co.Rch D E todo)∧Hid (Qu k n c cs_ todo)∧Hid (My w [(T,cs_,3),(Dp,dC E,3),(M,#[.string nm,.int .i64 pa,.int .i64 lo,.slice pI LN cI,.slice pn NN cn],59)] [] wr))
   case atStart=>exact ⟨E0,[0],T0,0,1,1,_,rfl,rfl,by omega,HR,zh ⟨rfl,Nat.le_refl _,Nat.le_refl _,fun j x hj=>by cases j with|zero=>cases hj;rfl|succ j=>simp at hj⟩,C5⟩
   case round=>
    clear C5 HR hle
    obtain⟨E,todo,T,k,n,c,cs_,rfl,rfl,hlf,HR,HQ,CR⟩:=hrel
    obtain⟨w_,hw_⟩:∃q,q=wr:=⟨_,rfl⟩
    rw [←hw_] at CR ⊢
    clear hw_
    by_cases hn0:0<n
    ·obtain⟨x,t,rfl⟩:∃x t,todo=x::t:=by
      cases todo with
      |nil=>have:=HQ.out.len;rw [List.length_nil] at this;omega
      |cons x t=>exact ⟨x,t,rfl⟩
     obtain⟨i,d,rfl,hEi,hDi⟩:=HR.out.todo x (List.mem_cons_self ..)
     have hiN:i<LN:=by rw [←HLN.out,←HG.out.len];exact(List.getElem?_eq_some_iff.1 hDi).1
     obtain⟨z,hz⟩:∃z,g.code[i]? =some z:=⟨_,List.getElem?_eq_getElem (by rw [HLN.out];exact hiN)⟩
     have hvd:=HV.out z (List.mem_of_getElem? hz)
     obtain⟨xo,xa,xb⟩:=z
     obtain⟨KP,e1,KQ,e2,hKP,hKQ,hs1,hs2,hq1,hd64,he64,hnx⟩:=HG.out.step hvd.b.1 hz hDi
     obtain⟨n1,rfl⟩:∃n1,n=n1+1:=⟨n -1,by omega⟩
     have HEI:=zh hEi
     have HNX:=zh hnx
     have HVD:=zh hvd
     have HKP:=zh hKP
     have HKQ:=zh hKQ
     obtain⟨b5,o5,hp5,hb5,hi0_,hi1_,hi2_⟩:=(HC.out.keep CR.out.gr.fresh).get hz
     dsimp only at hi0_ hi1_ hi2_
     subst hp5
     have HI:=zh (And.intro hi0_ (And.intro hi1_ hi2_))
     clear hEi hDi hz hvd hKP hKQ hnx hi0_ hi1_ hi2_
     have qT:w_.cell? ⟨T,k,none⟩=some (.int .i64 (i:Int)):=zB (CR.out.b 0 rfl) (HQ.out.at_ 0 _ rfl)
     have hn1:(0:Int)<((n1+1:Nat):Int):=by omega
     go_upto_region 12 with fail
     clear qT
     have HT:=zh (HQ.out.tail)
     have HRT:=zh HR.out.tail
     have hcn:=HQ.out.le
     go_cut [5] (fun s5 wx=>∃k2 c2:Nat,s5= .slice (some ⟨T,k2,none⟩) n1 c2∧Hid (Qu k2 n1 c2 cs_ t)∧Hid (wx=w_))
     case first=>
      have ht:=HT.out
      by_cases hc1:c=1
      ·subst hc1
       go_wp2_with fail
       go_meet
       exact⟨k,0,by go_num,zh (by simpa using ht),zh rfl⟩
      ·go_wp2_with fail
       go_meet
       exact⟨k+1,c -1,by go_num,zh (by simpa [hc1] using ht),zh rfl⟩
     case rest=>
     obtain⟨k2,c2,rfl,HQ2,hwx⟩:=hcut
     rw [hwx.out]
     clear hwx HQ HT HR hcn
     have qi:=HI.out
     have q2:=cells5 (CR.out.b 2 rfl)
     have hii0:(0:Int)≤(i:Int):=by omega
     have hii1:(i:Int)<(LN:Int):=by omega
     obtain⟨I,w6,HX,HW,hx6,C6⟩:=CR.out.boxE #[.int .i64 xo,.int .i64 xa,.int .i64 xb] 65
     go_upto_region 14 with fail
     rw [←HX.out,←HW.out]
     clear HX HW CR qi q2
     have C7:Hid (My w [(T,cs_,3),(I,#[.int .i64 xo,.int .i64 xa,.int .i64 xb],65),(Dp,dC E,3),(M,#[.string nm,.int .i64 pa,.int .i64 lo,.slice (some ⟨b5,o5,none⟩) LN cI,.slice pn NN cn],59)] [] w6):=zh (C6.out.perm (List.Perm.swap _ _ _))
     clear C6
     have q1:=cells3 (C7.out.b 1 rfl)
     go_wp2_with fail
     clear q1
     have hk:=zKJ (xo,xa,xb) HVD.out w6
     dsimp only at hk
     rw [HKP.out,HKQ.out] at hk
     refine hk.mono ?_
     clear hk
     rintro e w7 ⟨rfl,hb9⟩
     have C8:=zh (Mz.below C7.out hb9)
     clear hb9 C7
     have q3:=C8.out.dcell 2 rfl HEI.out
     have q1:=cells3 (C8.out.b 1 rfl)
     have hw1:IntKind.i64.wrap ((d:Int) - (KP:Int))=(e1:Int):=by rw [IntKind.wrap_i64];omega
     have hw2:IntKind.i64.wrap ((e1:Int)+(KQ:Int))=(e2:Int):=by rw [IntKind.wrap_i64];omega
     go_upto_region 16 with fail
     go_wp2_with fail
     clear q1 q3 hw1 hw2
     have hk:=zLV (xo,xa,xb) HVD.out w7
     refine hk.mono ?_
     clear hk
     rintro e w8 ⟨rfl,hb9⟩
     have C10:=zh (Mz.below C8.out hb9)
     clear hb9 C8
     have q3:=C10.out.dcell 2 rfl HEI.out
     have q1:=cells3 (C10.out.b 1 rfl)
     have hd1:¬(d:Int)<(KP:Int):=by omega
     have hd2:¬(64:Int)<(e2:Int):=by omega
     go_wp2_with fail
     clear q1 q3 hd1 hd2
     have hk:=zUM (xo,xa,xb) HVD.out i (by omega) w8
     refine hk.mono ?_
     clear hk
     rintro e w11 ⟨v,rfl,hb9,hsl⟩
     have hs9:=hsl
     obtain⟨pt,ct,hv9⟩:=hsl.form
     subst hv9
     obtain⟨TL,hTL⟩:∃q,(tgts (xo,xa,xb) i).length=q:=⟨_,rfl⟩
     rw [hTL] at hs9 ⊢
     have C11:=zh (Mz.add C10.out hb9 (r:=fun W=>SlN W (.slice pt TL ct) (tgts (xo,xa,xb) i)) zUO hs9)
     have HTL:=zh hTL
     have hTL2:TL≤2:=by
      rw [←hTL]
      unfold tgts
      dsimp only
      repeat' split
      all_goals simp
     clear hb9 hs9 hsl hTL C10
     go_wp2_with fail
     obtain⟨LF,hLF⟩:∃q,Co.left E+n1=q:=⟨_,rfl⟩
     go_loopg [5,12] TL (fun gg s5 s12 wr=>∃(j:Nat) (E todo:List Int) (T k n c:Nat) (cs_:Array Value),s5= .slice (some ⟨T,k,none⟩) n c∧s12= .int .i64 j∧j≤TL∧gg=TL -j∧Co.left E+n=LF∧Hid (Co.Rch D E todo)∧Hid (Qu k n c cs_ todo)∧Hid (Mz 0 w.heap.size w [] (fun _=>True) [] [(T,cs_,3),(I,#[.int .i64 xo,.int .i64 xa,.int .i64 xb],65),(Dp,dC E,3),(M,#[.string nm,.int .i64 pa,.int .i64 lo,.slice (some ⟨b5,o5,none⟩) LN cI,.slice pn NN cn],59)] [fun W=>SlN W (.slice pt TL ct) (tgts (xo,xa,xb) i)] wr))
     case atStart=>exact ⟨0,E,t,T,k2,n1,c2,cs_,rfl,rfl,Nat.zero_le _,rfl,hLF,HRT,HQ2,C11⟩
     case round=>
      clear C11 HQ2 HRT HEI
      obtain⟨j,E,todo,T,k,n,c,cs_,rfl,rfl,hj,rfl,hlf2,HR,HQ,CI⟩:=hrel
      obtain⟨w0,hw_⟩:∃q,q=wr:=⟨_,rfl⟩
      rw [←hw_] at CI ⊢
      clear hw_
      by_cases hlt:j<TL
      ·obtain⟨tg,htg⟩:∃z,(tgts (xo,xa,xb) i)[j]? =some z:=⟨_,List.getElem?_eq_getElem (by rw [HTL.out];exact hlt)⟩
       obtain⟨q,rfl,hDq⟩:=HNX.out tg (List.mem_of_getElem? htg)
       obtain⟨tb,tq,hpt,htb,hct⟩:=SlN.get (CI.out.rd 0 rfl) htg
       subst hpt
       have hqN:q<LN:=by rw [←HLN.out,←HG.out.len];exact(List.getElem?_eq_some_iff.1 hDq).1
       obtain⟨x,hx⟩:∃x,E[q]? =some x:=⟨_,List.getElem?_eq_getElem (by rw [HR.out.len,HG.out.len,HLN.out];exact hqN)⟩
       have hxx:=HR.out.dep q x hx
       have HDQ:=zh hDq
       have HXQ:=zh hx
       have HCT:Hid (A0 tb (tq+j) (.int .i64 (q:Int)) w0):=zh hct
       have CJ:=zh (CI.out.get (r:=A0 tb (tq+j) (.int .i64 (q:Int))) mnA0 ((SlN.get (CI.out.o 0 rfl) htg).elim fun b h=>h.elim fun o h=>by obtain⟨e,_,h⟩:=h;injection e with e;injection e with e1 e2;subst e1 e2;exact h))
       clear CI hx htg htb hct HCT hDq
       have hj0:(0:Int)≤(j:Int):=by omega
       have hj1:(j:Int)<(TL:Int):=by omega
       have hq0:(0:Int)≤(q:Int):=by omega
       have hq1_:(q:Int)<(LN:Int):=by omega
       have hqn:¬(q:Int)<0:=by omega
       have hqN2:¬(LN:Int)≤(q:Int):=by omega
       go_upto_region 22 with fail
       by_cases hx1:x= -1
       ·clear hxx
        subst hx1
        have hm0:¬(0:Int)≤ -1:=by decide
        obtain⟨w12,HW,C12⟩:=CJ.out.drewE
        refine wp_region_held_drew (S:=fun W=>W.cell? ⟨tb,tq+j,none⟩=some (.int .i64 (q:Int))∧W.cell? ⟨M,3,none⟩=some (.slice (some ⟨b5,o5,none⟩) LN cI)∧W.cell? ⟨Dp,q,none⟩=some (.int .i64 (-1))) (by kernel_rfl) (by rw [←HW.out];exact⟨C12.out.rd 0 rfl,(cells5 (C12.out.b 3 rfl)).2.2.2.2.2.2.2.1,(C12.out.dcell 2 rfl HXQ.out).2.1⟩) (fun hHeld=>?_)
        rw [←HW.out] at hHeld ⊢
        clear HW CJ
        refine rU 0 (some 89) ?_
        refine rU 1 (some 90) ?_
        refine rU 2 (some 91) ?_
        refine rU 3 (some 92) ?_
        refine rU 4 (some 93) ?_
        refine rU 5 (some 94) ?_
        refine rU 6 (some 95) ?_
        refine rU 7 (some 96) ?_
        refine rU 8 (some 97) ?_
        refine rU 9 (some 98) ?_
        refine rU 10 (some 99) ?_
        refine rU 11 (some 100) ?_
        refine rU 12 (some 101) ?_
        refine rU 13 (some 102) ?_
        refine rU 14 (some 103) ?_
        refine rU 15 (some 104) ?_
        refine rU 16 (some 105) ?_
        refine rU 17 (some 106) ?_
        refine rU 18 (some 107) ?_
        refine rU 19 (some 108) ?_
        refine rU 20 (some 109) ?_
        refine rU 21 (some 110) ?_
        refine rU 22 (some 111) ?_
        refine rU 23 (some 112) ?_
        refine rU 24 (some 113) ?_
        refine rK 25 (some 114) ?_
        try simp only [Act.put,q0,q1,q2]
        refine rK 26 (some 115) ?_
        try simp only [Act.put,q0,q1,q2]
        refine rK 27 (some 116) ?_
        try simp only [Act.put,q0,q1,q2]
        refine rK 28 (some 117) ?_
        try simp only [Act.put,q0,q1,q2]
        refine rK 29 (some 118) ?_
        try simp only [Act.put,q0,q1,q2]
        refine rK 30 (some 119) ?_
        try simp only [Act.put,q0,q1,q2]
        refine rK 31 (some 120) ?_
        try simp only [Act.put,q0,q1,q2]
        refine rK 32 (some 121) ?_
        try simp only [Act.put,q0,q1,q2]
        refine rK 33 (some 122) ?_
        try simp only [Act.put,q0,q1,q2]
        refine rU 34 (some 123) ?_
        refine rU 35 (some 124) ?_
        refine wpAnyH_done (by kernel_rfl) ?_ _
        clear hHeld
        have q0:w12.cell? ⟨tb,tq+j,none⟩=some (.int .i64 (q:Int)):=C12.out.rd 0 rfl
        have q3:=C12.out.dcell 2 rfl HXQ.out
        go_upto_region 25 with fail
        obtain⟨w13,HW,C13⟩:=C12.out.put 2 rfl q ((e1:Int)+(KQ:Int))
        go_upto_region 26 with fail
        rw [←HW.out]
        rw [show (e1:Int)+(KQ:Int)=(e2:Int) from by omega] at C13
        clear HW q0 q3 C12
        have HADD:=zh (HR.out.add HDQ.out)
        have HLS:=zh (Co.zUX E q (e2:Int) HXQ.out (by omega))
        have q0:w13.cell? ⟨tb,tq+j,none⟩=some (.int .i64 (q:Int)):=C13.out.rd 0 rfl
        have hbx:=zD w13 (.cells #[.int .i64 (q:Int)] 3)
        have hblk:(w13.alloc (.cells #[.int .i64 (q:Int)] 3)).heap[w13.heap.size]? =some (.cells #[.int .i64 (q:Int)] 3 (0,0)):=zPN rfl
        have HN1:=zh hblk
        have C14:=zh (C13.out.below hbx)
        clear hbx hblk C13
        go_wp2_with (at_builtin;refine zUN rfl _ _ 93 3 rfl i0 Tryz.underlying93 hi0 hz0 hz1 hz2 rfl rfl C14.out HQ.out (by omega) (Src.ofSlice _ Tryz.underlying93 ⟨w13.heap.size,0,none⟩ 1 1 [.int .i64 (q:Int)] (by rw [hz1];rfl) (fun j u hj=>by cases j with|zero=>(cases hj;exact zB HN1.out (j:=0) rfl)|succ j=>simp at hj) (fun u hu=>by rw [List.mem_singleton] at hu;rw [hu];rfl)) ?_;intro T2 k2 c2 cs2 w15 hQ2 C15;have HQ2:=zh hQ2;clear hQ2 q0 C14 HN1)
        go_roundg (TL -(j+1))
        case measure=>omega
        case rel=>exact ⟨j+1,E.set q (e2:Int),todo++ [(q:Int)],T2,k2,n+1,c2,cs2,by go_num,by go_num,by omega,rfl,by have:=HLS.out;omega,HADD,HQ2,zh (C15.out.few (fun r hr=>List.mem_cons_of_mem _ hr))⟩
       ·obtain rfl:x=(e2:Int):=by
         rcases hxx with h|h
         ·exact absurd h hx1
         ·have h2:=HDQ.out;rw [h] at h2;injection h2
        have hm0:(0:Int)≤(e2:Int):=by omega
        have hm1:((e2:Int) != (e2:Int))=false:=by simp
        have hm2:¬(e2:Int)<0:=by omega
        obtain⟨w12,HW,C12⟩:=CJ.out.drewE
        refine wp_region_held_drew (S:=fun W=>W.cell? ⟨tb,tq+j,none⟩=some (.int .i64 (q:Int))∧W.cell? ⟨M,3,none⟩=some (.slice (some ⟨b5,o5,none⟩) LN cI)∧W.cell? ⟨Dp,q,none⟩=some (.int .i64 ((e2:Int)))) (by kernel_rfl) (by rw [←HW.out];exact⟨C12.out.rd 0 rfl,(cells5 (C12.out.b 3 rfl)).2.2.2.2.2.2.2.1,(C12.out.dcell 2 rfl HXQ.out).2.1⟩) (fun hHeld=>?_)
        rw [←HW.out] at hHeld ⊢
        clear HW CJ
        refine rU 0 (some 89) ?_
        refine rU 1 (some 90) ?_
        refine rU 2 (some 91) ?_
        refine rU 3 (some 92) ?_
        refine rU 4 (some 93) ?_
        refine rU 5 (some 94) ?_
        refine rU 6 (some 95) ?_
        refine rU 7 (some 96) ?_
        refine rU 8 (some 97) ?_
        refine rU 9 (some 98) ?_
        refine rU 10 (some 99) ?_
        refine rU 11 (some 100) ?_
        refine rU 12 (some 101) ?_
        refine rU 13 (some 102) ?_
        refine rU 14 (some 103) ?_
        refine rU 15 (some 104) ?_
        refine rU 16 (some 105) ?_
        refine rU 17 (some 106) ?_
        refine rU 18 (some 107) ?_
        refine rU 19 (some 108) ?_
        refine rU 20 (some 109) ?_
        refine rU 21 (some 110) ?_
        refine rU 22 (some 111) ?_
        refine rU 23 (some 112) ?_
        refine rU 24 (some 113) ?_
        refine rU 25 (some 114) ?_
        refine rU 26 (some 115) ?_
        refine rU 27 (some 116) ?_
        refine rU 28 (some 117) ?_
        refine rU 29 (some 118) ?_
        refine rU 30 (some 119) ?_
        refine rU 31 (some 120) ?_
        refine rU 32 (some 121) ?_
        refine rU 33 (some 122) ?_
        refine rU 34 (some 123) ?_
        refine rU 35 (some 124) ?_
        refine wpAnyH_done (by kernel_rfl) ?_ _
        clear hHeld
        have q0:w12.cell? ⟨tb,tq+j,none⟩=some (.int .i64 (q:Int)):=C12.out.rd 0 rfl
        have q3:=C12.out.dcell 2 rfl HXQ.out
        go_wp2_with fail
        go_roundg (TL -(j+1))
        case measure=>omega
        case rel=>exact ⟨j+1,E,todo,T,k,n,c,cs_,by go_num,by go_num,by omega,rfl,hlf2,HR,HQ,zh (C12.out.few (fun r hr=>List.mem_cons_of_mem _ hr))⟩
      ·obtain rfl:TL=j:=by omega
       go_wp2_with fail
       go_roundg LF
       case measure=>omega
       case rel=>exact ⟨E,todo,T,k,n,c,cs_,by go_num,hlf2.symm,by omega,HR,HQ,zh ((CI.out.sub (((List.Sublist.refl _).cons _).cons_cons _)).few (fun r hr=>by cases hr))⟩
    ·obtain rfl:n=0:=by omega
     go_wp2_with fail
     go_ret
     exact⟨rfl,CR.out.gr.fresh⟩
end Cw
end Go.Proofs.YtcnmfcgmnkncaaaGreatDoor
