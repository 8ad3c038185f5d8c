/-
  Several texts in one: Tree, TrHide, LexSpec, TrSpec, TrFew, TrOwn.
-/
import Derived.Below
import Derived.Deep.Slices
import Derived.Deep.Fields
import Derived.ChangeSame
import Derived.Laws.AppendOwn
import Derived.Test.YtcnmfcgmnkncaaaGreatDoorRows
import Derived.WalkKit
import Derived.WalkLawsBesides
import Derived.WalkSpells
import Derived.LoopTactic
import Derived.Lib.Hide
import Derived.Laws.Rows
import Derived.OneCell
import Derived.Test.YtcnmfcgmnkncaaaGreatDoorJH0
namespace Go.Proofs.YtcnmfcgmnkncaaaGreatDoor
open Go.RowKit
namespace Tr
inductive E where
 |mk (kind op int:Int) (name:ByteArray) (at_:Bool) (args:List E)
def E.kind:E→Int| .mk k _ _ _ _ _=>k
def E.op:E→Int| .mk _ o _ _ _ _=>o
def E.int:E→Int| .mk _ _ i _ _ _=>i
def E.name:E→ByteArray| .mk _ _ _ n _ _=>n
def E.at_:E→Bool| .mk _ _ _ _ a _=>a
def E.args:E→List E| .mk _ _ _ _ _ l=>l
inductive S where
 |mk (kind:Int) (name:ByteArray) (exprs:List E) (body els:List S)
def S.kind:S→Int| .mk k _ _ _ _=>k
def S.name:S→ByteArray| .mk _ n _ _ _=>n
def S.exprs:S→List E| .mk _ _ x _ _=>x
def S.body:S→List S| .mk _ _ _ b _=>b
def S.els:S→List S| .mk _ _ _ _ b=>b
structure M where
 name:ByteArray
 params:List ByteArray
 body:List S
structure C where
 name:ByteArray
 actor:Bool
 fields:List ByteArray
 methods:List M
def I64 (n:Int):Prop:= -9223372036854775808≤n∧n≤9223372036854775807
def E.deep:E→Nat
 | .mk _ _ _ _ _ args=>1+deeps args
where deeps:List E→Nat
 | []=>0
 |e::r=>max (E.deep e) (deeps r)
def S.deep:S→Nat
 | .mk _ _ _ body els=>1+max (deeps body) (deeps els)
where deeps:List S→Nat
 | []=>0
 |e::r=>max (S.deep e) (deeps r)
theorem E.deeps_get:∀(l:List E) (j:Nat) (e:E),l[j]? =some e→E.deep e≤E.deep.deeps l
 | [],j,e,h=>by simp at h
 |x::r,0,e,h=>by cases h;unfold E.deep.deeps;exact Nat.le_max_left _ _
 |x::r,j+1,e,h=>by
  unfold E.deep.deeps
  exact Nat.le_trans (E.deeps_get r j e (by simpa using h)) (Nat.le_max_right _ _)
theorem S.deeps_get:∀(l:List S) (j:Nat) (e:S),l[j]? =some e→S.deep e≤S.deep.deeps l
 | [],j,e,h=>by simp at h
 |x::r,0,e,h=>by cases h;unfold S.deep.deeps;exact Nat.le_max_left _ _
 |x::r,j+1,e,h=>by
  unfold S.deep.deeps
  exact Nat.le_trans (S.deeps_get r j e (by simpa using h)) (Nat.le_max_right _ _)
theorem E.deep_args {e:E} {n:Nat} (h:e.deep≤n+1) {j:Nat} {x:E} (hj:e.args[j]? =some x):x.deep≤n:=by
 cases e with
 |mk k o i nm a l=>
  unfold E.deep at h
  have:=E.deeps_get l j x hj
  omega
theorem S.deep_body {s:S} {n:Nat} (h:s.deep≤n+1):S.deep.deeps s.body≤n:=by
 cases s with
 |mk k nm x b l=>
  unfold S.deep at h
  show S.deep.deeps b≤n
  have:=Nat.le_max_left (S.deep.deeps b) (S.deep.deeps l)
  omega
theorem S.deep_els {s:S} {n:Nat} (h:s.deep≤n+1):S.deep.deeps s.els≤n:=by
 cases s with
 |mk k nm x b l=>
  unfold S.deep at h
  show S.deep.deeps l≤n
  have:=Nat.le_max_right (S.deep.deeps b) (S.deep.deeps l)
  omega
end Tr
structure BdE (e:Tr.E):Prop where
 kind:Tr.I64 e.kind
 op:Tr.I64 e.op
 int:Tr.I64 e.int
 name:e.name.size≤maxLen
structure BdS (s:Tr.S):Prop where
 kind:Tr.I64 s.kind
 name:s.name.size≤maxLen
def CellsE (w:World) (b o:Nat) (e:Tr.E) (a:Value):Prop:=
 w.cell? ⟨b,o,none⟩=some (.int .i64 e.kind)∧w.cell? ⟨b,o+1,none⟩=some (.int .i64 e.op)∧w.cell? ⟨b,o+2,none⟩=some (.int .i64 e.int)∧
 w.cell? ⟨b,o+3,none⟩=some (.string e.name)∧w.cell? ⟨b,o+4,none⟩=some (.bool e.at_)∧w.cell? ⟨b,o+5,none⟩=some a
def CellsS (w:World) (b o:Nat) (s:Tr.S) (x y z:Value):Prop:=
 w.cell? ⟨b,o,none⟩=some (.int .i64 s.kind)∧w.cell? ⟨b,o+1,none⟩=some (.string s.name)∧
 w.cell? ⟨b,o+2,none⟩=some x∧w.cell? ⟨b,o+3,none⟩=some y∧w.cell? ⟨b,o+4,none⟩=some z
inductive SlE (w:World):Value→List Tr.E→Prop
 |nil (p:Option Addr) (c:Nat):SlE w (.slice p 0 c) []
 |row (b o c:Nat) (l:List Tr.E) (A:Nat→Value) (hn:l.length≤c) (hm:c≤maxLen) (hc:∀j e,l[j]? =some e→CellsE w b (o+j*6) e (A j)∧BdE e)
  (ha:∀j e,l[j]? =some e→SlE w (A j) e.args):SlE w (.slice (some ⟨b,o,none⟩) l.length c) l
inductive SlS (w:World):Value→List Tr.S→Prop
 |nil (p:Option Addr) (c:Nat):SlS w (.slice p 0 c) []
 |row (b o c:Nat) (l:List Tr.S) (X Y Z:Nat→Value) (hn:l.length≤c) (hm:c≤maxLen) (hc:∀j s,l[j]? =some s→CellsS w b (o+j*5) s (X j) (Y j) (Z j)∧BdS s)
  (hx:∀j s,l[j]? =some s→SlE w (X j) s.exprs) (hy:∀j s,l[j]? =some s→SlS w (Y j) s.body) (hz:∀j s,l[j]? =some s→SlS w (Z j) s.els):SlS w (.slice (some ⟨b,o,none⟩) l.length c) l
theorem zZ {w:World} {b o:Nat} {v:Value} (h:w.cell? ⟨b,o,none⟩=some v):b<w.heap.size:=by
 rcases Nat.lt_or_ge b w.heap.size with hlt|hge
 ·exact hlt
 ·unfold World.cell? at h
  rw [Array.getElem?_eq_none hge] at h
  cases h
theorem zA {w w':World} {b o:Nat} {v:Value} (hb:Below w.heap.size w w') (h:w.cell? ⟨b,o,none⟩=some v):w'.cell? ⟨b,o,none⟩=some v:=
 (hb.cell (zZ h)).trans h
theorem CellsE.keep {w w':World} {b o:Nat} {e:Tr.E} {a:Value} (h:CellsE w b o e a) (hb:Below w.heap.size w w'):CellsE w' b o e a:=
 ⟨zA hb h.1,zA hb h.2.1,zA hb h.2.2.1,zA hb h.2.2.2.1,zA hb h.2.2.2.2.1,zA hb h.2.2.2.2.2⟩
theorem CellsS.keep {w w':World} {b o:Nat} {e:Tr.S} {x y z:Value} (h:CellsS w b o e x y z) (hb:Below w.heap.size w w'):CellsS w' b o e x y z:=
 ⟨zA hb h.1,zA hb h.2.1,zA hb h.2.2.1,zA hb h.2.2.2.1,zA hb h.2.2.2.2⟩
theorem SlE.keep {w w':World} {v:Value} {l:List Tr.E} (h:SlE w v l) (hb:Below w.heap.size w w'):SlE w' v l:=by
 induction h with
 |nil p c=>exact .nil p c
 |row b o c l A hn hm hc ha ih=>exact .row b o c l A hn hm (fun j e hj=>⟨(hc j e hj).1.keep hb,(hc j e hj).2⟩) (fun j e hj=>ih j e hj)
theorem SlS.keep {w w':World} {v:Value} {l:List Tr.S} (h:SlS w v l) (hb:Below w.heap.size w w'):SlS w' v l:=by
 induction h with
 |nil p c=>exact .nil p c
 |row b o c l X Y Z hn hm hc hx hy hz ih1 ih2=>exact .row b o c l X Y Z hn hm (fun j e hj=>⟨(hc j e hj).1.keep hb,(hc j e hj).2⟩) (fun j e hj=>(hx j e hj).keep hb) (fun j e hj=>ih1 j e hj) (fun j e hj=>ih2 j e hj)
theorem SlE.form {w:World} {v:Value} {l:List Tr.E} (h:SlE w v l):∃p c,v= .slice p l.length c∧(l≠ []→l.length≤c∧c≤maxLen):=by
 cases h with
 |nil p c=>exact ⟨p,c,rfl,fun h=>absurd rfl h⟩
 |row b o c l A hn hm hc ha=>exact ⟨_,c,rfl,fun _=>⟨hn,hm⟩⟩
theorem SlS.form {w:World} {v:Value} {l:List Tr.S} (h:SlS w v l):∃p c,v= .slice p l.length c∧(l≠ []→l.length≤c∧c≤maxLen):=by
 cases h with
 |nil p c=>exact ⟨p,c,rfl,fun h=>absurd rfl h⟩
 |row b o c l X Y Z hn hm hc hx hy hz=>exact ⟨_,c,rfl,fun _=>⟨hn,hm⟩⟩
theorem SlE.len {w:World} {v:Value} {l:List Tr.E} (h:SlE w v l):l.length≤maxLen:=by
 cases h with
 |nil p c=>exact Nat.zero_le _
 |row b o c l A hn hm hc ha=>omega
theorem SlS.len {w:World} {v:Value} {l:List Tr.S} (h:SlS w v l):l.length≤maxLen:=by
 cases h with
 |nil p c=>exact Nat.zero_le _
 |row b o c l X Y Z hn hm hc hx hy hz=>omega
theorem SlE.get {w:World} {p:Option Addr} {n c:Nat} {l:List Tr.E} (h:SlE w (.slice p n c) l) {j:Nat} {e:Tr.E} (hj:l[j]? =some e):
 ∃b o a,p=some ⟨b,o,none⟩∧b<w.heap.size∧CellsE w b (o+j*6) e a∧BdE e∧SlE w a e.args:=by
 generalize hv:(Value.slice p n c)=v at h
 cases h with
 |nil p c=>simp at hj
 |row b o c l A hn hm hc ha=>cases hv;exact⟨b,o,A j,rfl,zZ (hc j e hj).1.1,(hc j e hj).1,(hc j e hj).2,ha j e hj⟩
theorem SlS.get {w:World} {p:Option Addr} {n c:Nat} {l:List Tr.S} (h:SlS w (.slice p n c) l) {j:Nat} {e:Tr.S} (hj:l[j]? =some e):
 ∃b o x y z,p=some ⟨b,o,none⟩∧b<w.heap.size∧CellsS w b (o+j*5) e x y z∧BdS e∧SlE w x e.exprs∧SlS w y e.body∧SlS w z e.els:=by
 generalize hv:(Value.slice p n c)=v at h
 cases h with
 |nil p c=>simp at hj
 |row b o c l X Y Z hn hm hc hx hy hz=>cases hv;exact⟨b,o,X j,Y j,Z j,rfl,zZ (hc j e hj).1.1,(hc j e hj).1,(hc j e hj).2,hx j e hj,hy j e hj,hz j e hj⟩
def SlStr (w:World) (v:Value) (l:List ByteArray):Prop:=
 ∃p c,v= .slice p l.length c∧l.length≤maxLen∧(l≠ []→l.length≤c∧c≤maxLen)∧∀j s,l[j]? =some s→s.size≤maxLen∧∃b o,p=some ⟨b,o,none⟩∧b<w.heap.size∧w.cell? ⟨b,o+j,none⟩=some (.string s)
theorem SlStr.keep {w w':World} {v:Value} {l:List ByteArray} (h:SlStr w v l) (hb:Below w.heap.size w w'):SlStr w' v l:=by
 obtain⟨p,c,e,hl,hn,hx⟩:=h
 refine⟨p,c,e,hl,hn,fun j s hj=>?_⟩
 obtain⟨hs,b,o,e2,h1,h2⟩:=hx j s hj
 exact⟨hs,b,o,e2,Nat.lt_of_lt_of_le h1 hb.size,zA hb h2⟩
def CellsM (w:World) (b o:Nat) (m:Tr.M) (x y:Value):Prop:=
 w.cell? ⟨b,o,none⟩=some (.string m.name)∧w.cell? ⟨b,o+1,none⟩=some x∧w.cell? ⟨b,o+2,none⟩=some y
def SlM (w:World) (v:Value) (l:List Tr.M):Prop:=
 ∃p c,v= .slice p l.length c∧l.length≤maxLen∧(l≠ []→l.length≤c∧c≤maxLen)∧∀j m,l[j]? =some m→m.name.size≤maxLen∧∃b o x y,p=some ⟨b,o,none⟩∧b<w.heap.size∧CellsM w b (o+j*3) m x y∧SlStr w x m.params∧SlS w y m.body
theorem SlM.keep {w w':World} {v:Value} {l:List Tr.M} (h:SlM w v l) (hb:Below w.heap.size w w'):SlM w' v l:=by
 obtain⟨p,c,e,hl,hn,hx⟩:=h
 refine⟨p,c,e,hl,hn,fun j s hj=>?_⟩
 obtain⟨hs,b,o,x,y,e2,h1,h2,h3,h4⟩:=hx j s hj
 exact⟨hs,b,o,x,y,e2,Nat.lt_of_lt_of_le h1 hb.size,⟨zA hb h2.1,zA hb h2.2.1,zA hb h2.2.2⟩,h3.keep hb,h4.keep hb⟩
def CellsC (w:World) (b o:Nat) (m:Tr.C) (x y:Value):Prop:=
 w.cell? ⟨b,o,none⟩=some (.string m.name)∧w.cell? ⟨b,o+1,none⟩=some (.bool m.actor)∧w.cell? ⟨b,o+2,none⟩=some x∧w.cell? ⟨b,o+3,none⟩=some y
def SlC (w:World) (v:Value) (l:List Tr.C):Prop:=
 ∃p c,v= .slice p l.length c∧l.length≤maxLen∧(l≠ []→l.length≤c∧c≤maxLen)∧∀j m,l[j]? =some m→m.name.size≤maxLen∧∃b o x y,p=some ⟨b,o,none⟩∧b<w.heap.size∧CellsC w b (o+j*4) m x y∧SlStr w x m.fields∧SlM w y m.methods
theorem SlC.keep {w w':World} {v:Value} {l:List Tr.C} (h:SlC w v l) (hb:Below w.heap.size w w'):SlC w' v l:=by
 obtain⟨p,c,e,hl,hn,hx⟩:=h
 refine⟨p,c,e,hl,hn,fun j s hj=>?_⟩
 obtain⟨hs,b,o,x,y,e2,h1,h2,h3,h4⟩:=hx j s hj
 exact⟨hs,b,o,x,y,e2,Nat.lt_of_lt_of_le h1 hb.size,⟨zA hb h2.1,zA hb h2.2.1,zA hb h2.2.2.1,zA hb h2.2.2.2⟩,h3.keep hb,h4.keep hb⟩
end Go.Proofs.YtcnmfcgmnkncaaaGreatDoor
namespace Go.Proofs.YtcnmfcgmnkncaaaGreatDoor
open Go.RowKit
def Inc (w w':World):Prop:=w.heap.size≤w'.heap.size∧∀b o v,w.cell? ⟨b,o,none⟩=some v→w'.cell? ⟨b,o,none⟩=some v
theorem CellsE.inc {w w':World} {b o:Nat} {e:Tr.E} {a:Value} (h:CellsE w b o e a) (hb:Inc w w'):CellsE w' b o e a:=
 ⟨hb.2 _ _ _ h.1,hb.2 _ _ _ h.2.1,hb.2 _ _ _ h.2.2.1,hb.2 _ _ _ h.2.2.2.1,hb.2 _ _ _ h.2.2.2.2.1,hb.2 _ _ _ h.2.2.2.2.2⟩
theorem CellsS.inc {w w':World} {b o:Nat} {e:Tr.S} {x y z:Value} (h:CellsS w b o e x y z) (hb:Inc w w'):CellsS w' b o e x y z:=
 ⟨hb.2 _ _ _ h.1,hb.2 _ _ _ h.2.1,hb.2 _ _ _ h.2.2.1,hb.2 _ _ _ h.2.2.2.1,hb.2 _ _ _ h.2.2.2.2⟩
theorem SlE.inc {w w':World} {v:Value} {l:List Tr.E} (h:SlE w v l) (hb:Inc w w'):SlE w' v l:=by
 induction h with
 |nil p c=>exact .nil p c
 |row b o c l A hn hm hc ha ih=>exact .row b o c l A hn hm (fun j e hj=>⟨(hc j e hj).1.inc hb,(hc j e hj).2⟩) (fun j e hj=>ih j e hj)
theorem SlS.inc {w w':World} {v:Value} {l:List Tr.S} (h:SlS w v l) (hb:Inc w w'):SlS w' v l:=by
 induction h with
 |nil p c=>exact .nil p c
 |row b o c l X Y Z hn hm hc hx hy hz ih1 ih2=>exact .row b o c l X Y Z hn hm (fun j e hj=>⟨(hc j e hj).1.inc hb,(hc j e hj).2⟩) (fun j e hj=>(hx j e hj).inc hb) (fun j e hj=>ih1 j e hj) (fun j e hj=>ih2 j e hj)
theorem SlStr.inc {w w':World} {v:Value} {l:List ByteArray} (h:SlStr w v l) (hb:Inc w w'):SlStr w' v l:=by
 obtain⟨p,c,e,hl,hn,hx⟩:=h
 refine⟨p,c,e,hl,hn,fun j s hj=>?_⟩
 obtain⟨hs,b,o,e2,h1,h2⟩:=hx j s hj
 exact⟨hs,b,o,e2,Nat.lt_of_lt_of_le h1 hb.1,hb.2 _ _ _ h2⟩
theorem SlM.inc {w w':World} {v:Value} {l:List Tr.M} (h:SlM w v l) (hb:Inc w w'):SlM w' v l:=by
 obtain⟨p,c,e,hl,hn,hx⟩:=h
 refine⟨p,c,e,hl,hn,fun j s hj=>?_⟩
 obtain⟨hs,b,o,x,y,e2,h1,h2,h3,h4⟩:=hx j s hj
 exact⟨hs,b,o,x,y,e2,Nat.lt_of_lt_of_le h1 hb.1,⟨hb.2 _ _ _ h2.1,hb.2 _ _ _ h2.2.1,hb.2 _ _ _ h2.2.2⟩,h3.inc hb,h4.inc hb⟩
theorem SlC.inc {w w':World} {v:Value} {l:List Tr.C} (h:SlC w v l) (hb:Inc w w'):SlC w' v l:=by
 obtain⟨p,c,e,hl,hn,hx⟩:=h
 refine⟨p,c,e,hl,hn,fun j s hj=>?_⟩
 obtain⟨hs,b,o,x,y,e2,h1,h2,h3,h4⟩:=hx j s hj
 exact⟨hs,b,o,x,y,e2,Nat.lt_of_lt_of_le h1 hb.1,⟨hb.2 _ _ _ h2.1,hb.2 _ _ _ h2.2.1,hb.2 _ _ _ h2.2.2.1,hb.2 _ _ _ h2.2.2.2⟩,h3.inc hb,h4.inc hb⟩
def hide (S:Nat→Bool) (w:World):World:= { w with heap:=w.heap.mapIdx fun i o=>if S i then .cells #[] 0 (0,0) else o }
theorem z6 (S:Nat→Bool) (w:World):(hide S w).heap.size=w.heap.size:=by simp [hide]
theorem zGV {S:Nat→Bool} {w:World} {k:Nat} (h:S k=false):(hide S w).heap[k]? =w.heap[k]?:=by
 unfold hide
 rw [Array.getElem?_mapIdx,h]
 cases w.heap[k]? <;>rfl
theorem zAO {S:Nat→Bool} {w:World} {b o:Nat} (h:S b=false):(hide S w).cell? ⟨b,o,none⟩=w.cell? ⟨b,o,none⟩:=by
 unfold World.cell?
 rw [zGV h]
theorem zN {S:Nat→Bool} {w:World} {b o:Nat} {v:Value} (h:(hide S w).cell? ⟨b,o,none⟩=some v):S b=false∧w.cell? ⟨b,o,none⟩=some v:=by
 cases hs:S b with
 |false=>rw [zAO hs] at h;exact⟨rfl,h⟩
 |true=>
  exfalso
  unfold World.cell? at h
  have:(hide S w).heap[b]? =(w.heap[b]?).map fun _=> .cells #[] 0 (0,0):=by
   unfold hide
   rw [Array.getElem?_mapIdx,hs]
   cases w.heap[b]? <;>rfl
  simp only [this] at h
  cases hb:w.heap[b]? with
  |none=>rw [hb] at h;simp at h
  |some o=>rw [hb] at h;simp at h
theorem zFP (S:Nat→Bool) (w:World):Inc (hide S w) w:=⟨by rw [z6];exact Nat.le_refl _,fun _ _ _ h=>(zN h).2⟩
theorem zJ2 {S S':Nat→Bool} {w w':World} {row:Option Nat} (hg:w.grownBy w' row) (h1:∀k,row=some k→S k=true) (h2:∀k,k<w.heap.size→S' k=true→S k=true):Inc (hide S w) (hide S' w'):=by
 refine⟨by rw [z6,z6];exact hg.size,fun b o v h=>?_⟩
 obtain⟨hs,hc⟩:=zN h
 have hlt:=zZ hc
 have hs':S' b=false:=by
  cases hb:S' b with
  |false=>rfl
  |true=>rw [h2 b hlt hb] at hs;cases hs
 rw [zAO hs']
 have hb:=hg.block b hlt (fun e=>by rw [h1 b e.symm] at hs;cases hs)
 unfold World.cell? at hc ⊢
 rw [hb]
 exact hc
theorem zCI {S:Nat→Bool} {w:World} {base:Nat} {e:TypeId} {size n:Nat} {v:Value} {xs:List Value} (h:w.ownsRow base e size v n xs) (hs:∀k,v.ownBlock=some k→S k=false):(hide S w).ownsRow base e size v n xs:=by
 refine⟨h.1,?_⟩
 rcases h.2 with hn|⟨g,cap,cur,rfl,hb,hg,rest⟩
 ·exact .inl hn
 ·exact .inr ⟨g,cap,cur,rfl,hb,by rw [zGV (hs g rfl)];exact hg,rest⟩
def upto (B:Nat) (r:Option Nat):Nat→Bool:=fun k=>decide (k<B)||decide (r=some k)
end Go.Proofs.YtcnmfcgmnkncaaaGreatDoor
namespace Go.Proofs.YtcnmfcgmnkncaaaGreatDoor
namespace Lex
abbrev Bytes:=List UInt8
def letter (c:UInt8):Bool:=decide (97≤c.toNat∧c.toNat≤122∨65≤c.toNat∧c.toNat≤90)
def digit (c:UInt8):Bool:=decide (48≤c.toNat∧c.toNat≤57)
def wordc (c:UInt8):Bool:=letter c||digit c||decide (c.toNat=95)
def tailc (c:UInt8):Bool:=letter c||decide (c.toNat=95)
def space (c:UInt8):Bool:=decide (c.toNat=32∨c.toNat=9∨c.toNat=10∨c.toNat=13)
def skip:Bool→Bytes→Bytes
 |_,[]=> []
 |true,c::r=>if c.toNat=10 then skip false r else skip true r
 |false,c::r=>if space c then skip false r else if c.toNat=35 then skip true r else c::r
structure Tok where
 kind:Nat
 text:Bytes
 val:Nat
 pos:Nat
 deriving DecidableEq,Inhabited
def keywords:List Bytes:= [[97,99,116,111,114],[97,110,100],[97,116],[98,121],[101,108,115,101],[103,101,116],[105,102],[108,101,116],[109,111,118,101],[110,101,119],[110,105,108],[110,111,116],[111,110],[111,114],[112,114,105,110,116],[114,101,99,111,114,100],[114,101,116,117,114,110],[115,101,110,100],[116,104,105,115],[116,111],[118,97,114],[119,97,116,99,104],[119,101,97,107],[119,104,105,108,101]]
def symbols:List Bytes:= [[33,61],[37],[40],[41],[42],[43],[44],[45],[46],[47],[59],[60],[60,61],[61],[61,61],[62],[62,61],[123],[125]]
def value (l:Bytes):Nat:=l.foldl (fun n c=>10*n+(c.toNat -48)) 0
inductive Got where
 |bad (e:Nat)
 |tok (kind:Nat) (text:Bytes) (val:Nat)
 deriving DecidableEq,Inhabited
def nameAt (l:Bytes):Got:=
 let t:=l.takeWhile wordc
 if 31<t.length then .bad 8
 else if keywords.contains t then .tok 4 t 0
 else if (t.headD 0).toNat≤90 then .tok 3 t 0
 else .tok 2 t 0
def numberAt (l:Bytes):Got:=
 let t:=l.takeWhile digit
 if (l.drop t.length).head?.any tailc then .bad 3
 else if 1<t.length∧t.headD 0=48 then .bad 3
 else if 2305843009213693951<value t then .bad 2
 else .tok 1 t (value t)
def symbolAt (l:Bytes):Got:=
 if 2≤l.length∧symbols.contains (l.take 2)=true then .tok 5 (l.take 2) 0
 else if symbols.contains (l.take 1) then .tok 5 (l.take 1) 0
 else .bad 3
def next (l:Bytes):Got:=
 if letter (l.headD 0) then nameAt l else if digit (l.headD 0) then numberAt l else symbolAt l
inductive Res where
 |bad (at_:Nat) (e:Nat)
 |toks (l:List Tok)
 deriving DecidableEq,Inhabited
def scanF (n:Nat):Nat→Bytes→Res
 |_,[]=> .toks [⟨0,[],0,n⟩]
 |0,_ ::_=> .bad 0 0
 |f+1,c::r=>
  match next (c::r) with
  | .bad e=> .bad (n -(c::r).length) e
  | .tok k t v=>
    match scanF n f (skip false ((c::r).drop t.length)) with
    | .bad a e=> .bad a e
    | .toks l=> .toks (⟨k,t,v,n -(c::r).length⟩::l)
def scan (s:Bytes):Res:=
 if 16384<s.length then .bad 0 8 else scanF s.length (s.length) (skip false s)
theorem zAS:∀(b:Bool) (l:Bytes),(skip b l).length≤l.length
 |b,[]=>by cases b<;>simp [skip]
 |true,c::r=>by
  have h1:=zAS false r
  have h2:=zAS true r
  simp only [skip,List.length_cons]
  split<;>omega
 |false,c::r=>by
  have h1:=zAS false r
  have h2:=zAS true r
  simp only [skip,List.length_cons]
  split
  ·omega
  ·split
   ·omega
   ·simp
theorem zCX:∀(b:Bool) (l:Bytes),skip b l=l.drop (l.length -(skip b l).length)
 |b,[]=>by cases b<;>simp [skip]
 |true,c::r=>by
  have h1:=zCX false r
  have h2:=zCX true r
  have l1:=zAS false r
  have l2:=zAS true r
  simp only [skip,List.length_cons]
  split
  ·rw [show r.length+1 -(skip false r).length=(r.length -(skip false r).length)+1 by omega,List.drop_succ_cons]
   exact h1
  ·rw [show r.length+1 -(skip true r).length=(r.length -(skip true r).length)+1 by omega,List.drop_succ_cons]
   exact h2
 |false,c::r=>by
  have h1:=zCX false r
  have h2:=zCX true r
  have l1:=zAS false r
  have l2:=zAS true r
  simp only [skip,List.length_cons]
  split
  ·rw [show r.length+1 -(skip false r).length=(r.length -(skip false r).length)+1 by omega,List.drop_succ_cons]
   exact h1
  ·split
   ·rw [show r.length+1 -(skip true r).length=(r.length -(skip true r).length)+1 by omega,List.drop_succ_cons]
    exact h2
   ·simp
end Lex
end Go.Proofs.YtcnmfcgmnkncaaaGreatDoor
namespace Go.Proofs.YtcnmfcgmnkncaaaGreatDoor
namespace Tr
def nameL (lo hi:Nat) (l:List UInt8):Bool:=
 decide (l≠ []∧l.length≤31∧lo≤(l.headD 0).toNat∧(l.headD 0).toNat≤hi) && !Lex.keywords.contains l && l.all Lex.wordc
def varL (l:List UInt8):Bool:=nameL 97 122 l
def clsL (l:List UInt8):Bool:=nameL 65 90 l
def varB (s:ByteArray):Bool:=varL s.data.toList
def clsB (s:ByteArray):Bool:=clsL s.data.toList
def okE (k o i:Int) (nm:ByteArray) (a:Bool) (n:Nat):Bool:=
 !(decide (k≠0∧i≠0)||decide (k≠10∧o≠0)||(decide (k≠5) && a)) &&
 (if k=0 then decide (n=0∧nm.size=0∧0≤i∧i≤2305843009213693951)
  else if k=1 then decide (n=0∧nm.size=0)
  else if k=2 then decide (n=0∧nm.size=0)
  else if k=3 then decide (n=0) && varB nm
  else if k=4 then decide (n=1) && varB nm
  else if k=5 then clsB nm && (!a||decide (0<n))
  else if k=6 then decide (n=1∧nm.size=0)
  else if k=7 then decide (n=1∧nm.size=0)
  else if k=8 then decide (n=1∧nm.size=0)
  else if k=9 then decide (n=1∧nm.size=0)
  else if k=10 then decide (n=2∧nm.size=0∧0≤o∧o≤12)
  else false)
mutual
def validE:E→Bool
 | .mk k o i nm a l=>validEs l && okE k o i nm a l.length
def validEs:List E→Bool
 | []=>true
 |e::r=>validE e && validEs r
end
def okS (k:Int) (nm:ByteArray) (n nb ne:Nat):Bool:=
 if k=0 then decide (n=1∧nb=0∧ne=0) && varB nm
 else if k=1 then decide (n=1∧nb=0∧ne=0) && varB nm
 else if k=2 then decide (n=2∧nb=0∧ne=0) && varB nm
 else if k=3 then decide (n=1∧nm.size=0)
 else if k=4 then decide (n=1∧nm.size=0∧ne=0)
 else if k=5 then decide (1≤n∧nb=0∧ne=0) && varB nm
 else if k=6 then decide (n=1∧nm.size=0∧nb=0∧ne=0)
 else if k=7 then decide (n=2∧nm.size=0∧nb=0∧ne=0)
 else if k=8 then decide (n=2∧nb=0∧ne=0) && varB nm
 else if k=9 then decide (n=0∧nm.size=0∧nb=0∧ne=0)
 else false
mutual
def validS:S→Bool
 | .mk k nm x b l=>validEs x && okS k nm x.length b.length l.length && validSs b && validSs l
def validSs:List S→Bool
 | []=>true
 |s::r=>validS s && validSs r
end
def validM (m:M):Bool:=varB m.name && m.params.all varB && validSs m.body
def validC (c:C):Bool:=clsB c.name && c.fields.all varB && (c.actor||decide (c.methods.length=0)) && c.methods.all validM
def validP (l:List C):Bool:=l.all validC
theorem zAX:∀l:List E,validEs l=l.all validE
 | []=>rfl
 |e::r=>by rw [validEs,zAX r];rfl
theorem zDM:∀l:List S,validSs l=l.all validS
 | []=>rfl
 |e::r=>by rw [validSs,zDM r];rfl
mutual
def leftE:E→Int→Int
 | .mk _ _ _ nm _ l,n=>if 40<nm.size then -1 else leftEs l (n -1)
def leftEs:List E→Int→Int
 | [],n=>n
 |e::r,n=>if n<0 then n else leftEs r (leftE e n)
end
mutual
def leftS:S→Int→Int
 | .mk _ nm x b l,n=>if 40<nm.size then -1 else
   let n1:=leftEs x (n -1)
   let n2:=if 0≤n1 then leftSs b n1 else n1
   if 0≤n2 then leftSs l n2 else n2
def leftSs:List S→Int→Int
 | [],n=>n
 |s::r,n=>if n<0 then n else leftSs r (leftS s n)
end
def shortL (l:List ByteArray) (n:Int):Int:=if l.any (fun s=>decide (40<s.size)) then -1 else n -l.length
def leftM (m:M) (n:Int):Int:=if 40<m.name.size then -1 else
 let n1:=shortL m.params (n -1)
 if 0≤n1 then leftSs m.body n1 else n1
def leftMs:List M→Int→Int
 | [],n=>n
 |m::r,n=>if n<0 then n else leftMs r (leftM m n)
def leftC (c:C) (n:Int):Int:=if 40<c.name.size then -1 else leftMs c.methods (shortL c.fields (n -1))
def leftCs:List C→Int→Int
 | [],n=>n
 |c::r,n=>if n<0 then n else leftCs r (leftC c n)
def fewP (l:List C) (n:Int):Bool:=decide (0≤leftCs l n)
def fewE (e:E) (n:Int):Bool:=decide (0≤leftE e n)
end Tr
end Go.Proofs.YtcnmfcgmnkncaaaGreatDoor
namespace Go.Proofs.YtcnmfcgmnkncaaaGreatDoor
open Go.RowKit
def exprV (e:Tr.E) (a:Value):Value:= .agg #[.int .i64 e.kind,.int .i64 e.op,.int .i64 e.int,.string e.name,.bool e.at_,a]
theorem zP (w:World) (cs:Array Value) (t:TypeId) (i:Nat) (u:Value) (h:cs[i]? =some u):(w.alloc (.cells cs t)).cell? ⟨w.heap.size,i,none⟩=some u:=by
 unfold World.cell? World.alloc
 simp
 simpa using h
theorem zD (w:World) (o:Obj):Below w.heap.size w (w.alloc o):=(Below.refl _ _).alloc (Nat.le_refl _) o
theorem zC {wb w w':World} (h:Below wb.heap.size wb w) (h2:Below w.heap.size w w'):Below wb.heap.size wb w':=h.trans (h2.mono h.size)
namespace Tr
theorem E.deep_pos (e:E):1≤e.deep:=by cases e;unfold E.deep;omega
theorem zEU {n:Int} (h:n<0):∀l,leftEs l n=n
 | []=>rfl
 |e::r=>by rw [leftEs,if_pos h]
theorem zGO {n:Int} (h:0≤n) (e:E) (r:List E):leftEs (e::r) n=leftEs r (leftE e n):=by rw [leftEs,if_neg (by omega)]
mutual
theorem zMK:∀(e:E) (n:Int),0≤n→ -1≤leftE e n∧leftE e n≤n
 | .mk k o i nm a l,n,h=>by
   rw [leftE]
   split
   ·omega
   ·have:=zB6 l (n -1) (by omega)
    omega
theorem zB6:∀(l:List E) (n:Int),-1≤n→ -1≤leftEs l n∧leftEs l n≤n
 | [],n,h=>by rw [leftEs];omega
 |e::r,n,h=>by
  by_cases hn:n<0
  ·rw [zEU hn];omega
  ·rw [zGO (by omega)]
   have h1:=zMK e n (by omega)
   have h2:=zB6 r (leftE e n) h1.1
   omega
end
end Tr
set_option maxRecDepth 100000 in
set_option maxHeartbeats 1000000 in
theorem zJY:∀(d:Nat) (e:Tr.E) (a:Value) (n:Int) (w:World),e.deep≤d→BdE e→SlE w a e.args→0≤n→n≤1000000→
 Calls Tryz.prog 39 #[exprV e a,.int .i64 n] w fun r w'=>r= .returned (.int .i64 (Tr.leftE e n))∧Below w.heap.size w w':=by
 intro d
 induction d with
 |zero=>intro e a n w hd;have:=e.deep_pos;omega
 |succ d ih=>
  intro e a n w hd hB hS h0 hn
  obtain⟨k,o,i,nm,at_,l⟩:=e
  have hsz:nm.size≤maxLen:=hB.name
  have hS':SlE w a l:=hS
  obtain⟨p,c,rfl,_⟩:=hS'.form
  have hll:=hS'.len
  unfold maxLen at hsz hll
  obtain⟨N,hN⟩:∃N,l.length=N:=⟨_,rfl⟩
  rw [hN] at hS' hll ⊢
  have HS:=zh (hS'.keep (zD w (.cells #[.int .i64 k,.int .i64 o,.int .i64 i,.string nm,.bool at_,.slice p N c] 37)))
  have HN:=zh hN
  have HD:=zh hd
  have HIH:=zh ih
  have HB:=zh (zD w (.cells #[.int .i64 k,.int .i64 o,.int .i64 i,.string nm,.bool at_,.slice p N c] 37))
  have b5:=zP w #[.int .i64 k,.int .i64 o,.int .i64 i,.string nm,.bool at_,.slice p N c] 37 5 _ rfl
  unfold exprV
  simp only [Tr.E.kind,Tr.E.op,Tr.E.int,Tr.E.name,Tr.E.at_]
  clear hS hS' hB hN hd ih
  by_cases h40:40<nm.size
  ·go_enter Tryz.func39,Tryz.ntmps39
   go_wp2
   go_ret
   exact⟨by rw [Tr.leftE,if_pos h40];rfl,HB.out⟩
  ·obtain⟨w1,hw1⟩:∃w1,w1=w.alloc (.cells #[.int .i64 k,.int .i64 o,.int .i64 i,.string nm,.bool at_,.slice p N c] 37):=⟨_,rfl⟩
   rw [←hw1] at HS HB b5
   go_enter Tryz.func39,Tryz.ntmps39
   go_wp2
   rw [←hw1]
   clear hw1
   go_loopw [1,5] (fun s1 s5 wr=>∃(j:Nat) (m:Int),s5= .int .i64 j∧j≤N∧s1= .int .i64 m∧ -1≤m∧m≤1000000∧Tr.leftEs (l.drop j) m=Tr.leftEs l (n -1)∧Below w1.heap.size w1 wr) (fun _ s5 _=>N -(intOf s5).toNat)
   case atStart=>exact ⟨0,n -1,rfl,Nat.zero_le _,rfl,by omega,by omega,rfl,Below.refl _ _⟩
   case round=>
    obtain⟨j,m,rfl,hj,rfl,hm0,hm1,heq,hbr⟩:=hrel
    have HEQ:=zh heq
    have HBR:=zh hbr
    have c5:=zA hbr b5
    by_cases hlt:j<N
    ·by_cases hm:0≤m
     ·obtain⟨x,hx⟩:∃x,l[j]? =some x:=⟨_,List.getElem?_eq_getElem (by rw [HN.out];exact hlt)⟩
      obtain⟨b,oo,aa,rfl,hblt,hc,hbd,hsl⟩:=(HS.out.keep hbr).get hx
      obtain⟨x0,x1,x2,x3,x4,x5⟩:=hc
      have hcall:=HIH.out x aa m wr (Tr.E.deep_args HD.out (e:= .mk k o i nm at_ l) hx) hbd hsl hm hm1
      unfold exprV at hcall
      have hbd2:=Tr.zMK x m hm
      have hdrop:l.drop j=x::l.drop (j+1):=by rw [List.drop_eq_getElem_cons (by rw [HN.out];exact hlt)];congr 1;rw [List.getElem?_eq_getElem (by rw [HN.out];exact hlt)] at hx;exact Option.some.inj hx
      rw [hdrop,Tr.zGO hm] at heq
      have HEQ2:=zh heq
      have HC:=zh hcall
      obtain⟨r,hr⟩:∃r,Tr.leftE x m=r:=⟨_,rfl⟩
      rw [hr] at hbd2 HEQ2 HC
      clear heq hbr hcall hdrop hx hsl hbd hr HEQ
      go_wp2_with fail
      refine HC.out.mono ?_
      rintro e w2 ⟨rfl,hb2⟩
      go_wp2_with fail
      go_roundw
      case rel=>exact ⟨j+1,r,by go_num,by omega,rfl,by omega,by omega,HEQ2.out,zC HBR.out hb2⟩
      case measure=>simp [intOf];omega
     ·have hres:Tr.leftEs l (n -1)=m:=by rw [←heq,Tr.zEU (by omega)]
      have HR:=zh hres
      clear heq hbr hres
      go_wp2
      go_ret
      exact⟨by rw [Tr.leftE,if_neg h40,HR.out];rfl,HB.out.trans (HBR.out.mono HB.out.size)⟩
    ·have hres:Tr.leftEs l (n -1)=m:=by
      rw [←heq,List.drop_eq_nil_of_le (by rw [HN.out];omega),Tr.leftEs]
     have HR:=zh hres
     clear heq hbr hres
     go_wp2
     go_ret
     exact⟨by rw [Tr.leftE,if_neg h40,HR.out];rfl,HB.out.trans (HBR.out.mono HB.out.size)⟩
namespace Tr
theorem zDB {n:Int} (h:n<0):∀l,leftSs l n=n
 | []=>rfl
 |e::r=>by rw [leftSs,if_pos h]
theorem zLI {n:Int} (h:0≤n) (e:S) (r:List S):leftSs (e::r) n=leftSs r (leftS e n):=by rw [leftSs,if_neg (by omega)]
mutual
theorem zMI:∀(e:S) (n:Int),0≤n→ -1≤leftS e n∧leftS e n≤n
 | .mk k nm x b l,n,h=>by
   rw [leftS]
   split
   ·omega
   ·have h1:=zB6 x (n -1) (by omega)
    simp only []
    by_cases c1:0≤leftEs x (n -1)
    ·rw [if_pos c1]
     have h2:=zB5 b (leftEs x (n -1)) h1.1
     by_cases c2:0≤leftSs b (leftEs x (n -1))
     ·rw [if_pos c2]
      have h3:=zB5 l _ h2.1
      omega
     ·rw [if_neg c2];omega
    ·rw [if_neg c1,if_neg c1];omega
theorem zB5:∀(l:List S) (n:Int),-1≤n→ -1≤leftSs l n∧leftSs l n≤n
 | [],n,h=>by rw [leftSs];omega
 |e::r,n,h=>by
  by_cases hn:n<0
  ·rw [zDB hn];omega
  ·rw [zLI (by omega)]
   have h1:=zMI e n (by omega)
   have h2:=zB5 r (leftS e n) h1.1
   omega
end
theorem S.deep_pos (e:S):1≤e.deep:=by cases e;unfold S.deep;omega
theorem S.deep_in {l:List S} {d j:Nat} {x:S} (h:S.deep.deeps l≤d) (hj:l[j]? =some x):1≤d∧S.deep.deeps x.body≤d -1∧S.deep.deeps x.els≤d -1:=by
 have h1:=S.deeps_get l j x hj
 have h2:=x.deep_pos
 obtain⟨m,hm⟩:∃m,d=m+1:=⟨d -1,by omega⟩
 subst hm
 exact⟨by omega,S.deep_body (by omega),S.deep_els (by omega)⟩
end Tr
end Go.Proofs.YtcnmfcgmnkncaaaGreatDoor
namespace Go.Proofs.YtcnmfcgmnkncaaaGreatDoor
namespace Pw
open Go.RowKit Go.Maps
theorem zB {w:World} {g:Nat} {cur:Array Value} {t:TypeId} {r:Nat × Nat} (h:w.heap[g]? =some (.cells cur t r)) {j:Nat} {u:Value} (hu:cur[j]? =some u):w.cell? ⟨g,j,none⟩=some u:=by simp [World.cell?,h,hu]
theorem zPN {w:World} {o:Obj} {n:Nat} (h:w.heap.size=n):(w.alloc o).heap[n]? =some o:=by subst h;exact(MapKept.heap_alloc w o).1
theorem heap_set {w:World} {P j:Nat} {cs:Array Value} {t:TypeId} {r:Nat × Nat} (u:Value) (h:w.heap[P]? =some (.cells cs t r)):(w.setCell ⟨P,j,none⟩ u).heap[P]? =some (.cells (cs.setIfInBounds j u) t r):=by
 have hlt:=lt_of_block h
 have h':w.heap[P]= .cells cs t r:=by simpa [Array.getElem?_eq_getElem hlt] using h
 show(w.heap.modify P _)[P]? =_
 rw [Array.getElem?_eq_getElem (by simpa using hlt),Array.getElem_modify_self,h']
 rfl
theorem zI {w:World} {b:Nat} {cs:Array Value} {t:TypeId} (h:w.heap[b]? =some (.cells cs t (0,0))) (i:Nat):w.frozen? ⟨b,i,none⟩=false:=by simp [World.frozen?,h]
theorem bdE_mk {k o i:Int} {nm:ByteArray} {a:Bool} {l:List Tr.E} (h1:Tr.I64 k) (h2:Tr.I64 o) (h3:Tr.I64 i) (h4:nm.size≤maxLen):BdE (.mk k o i nm a l):=⟨h1,h2,h3,h4⟩
theorem grown_refl (w:World) (r:Option Nat):w.grownBy w r:=⟨rfl,rfl,rfl,Nat.le_refl _,fun _ _ _=>rfl⟩
def ReadC (W:World) (x:Tr.C) (a1 a2:Value):Prop:=x.name.size≤maxLen∧SlStr W a1 x.fields∧SlM W a2 x.methods
def ReadM (W:World) (x:Tr.M) (a1 a2:Value):Prop:=x.name.size≤maxLen∧SlStr W a1 x.params∧SlS W a2 x.body
def eCells (x:Tr.E × Value):List Value:= [.int .i64 x.1.kind,.int .i64 x.1.op,.int .i64 x.1.int,.string x.1.name,.bool x.1.at_,x.2]
theorem flat6:∀(l:List (Tr.E × Value)) (j q:Nat) (x:Tr.E × Value),l[j]? =some x→q<6→(l.flatMap eCells)[j*6+q]? =(eCells x)[q]?
 | [],j,q,x,h,_=>by simp at h
 |y::r,0,q,x,h,hq=>by
  cases h
  rw [List.flatMap_cons,Nat.zero_mul,Nat.zero_add,List.getElem?_append_left (by exact hq)]
 |y::r,j+1,q,x,h,hq=>by
  have h2:=flat6 r j q x (by simpa using h) hq
  have h6:(eCells y).length=6:=rfl
  rw [List.flatMap_cons,List.getElem?_append_right (by rw [h6];omega),h6,show(j+1)*6+q -6=j*6+q by omega]
  exact h2
theorem zH9 {w:World} {g:Nat} {cs:Array Value} {t:TypeId} (h:w.heap[g]? =some (.cells cs t (0,0))) (l:List (Tr.E × Value)) (hl:l.length≤1000) (hc:cs.toList=l.flatMap eCells) (hr:∀x∈l,BdE x.1∧SlE w x.2 x.1.args):
 SlE w (.slice (some ⟨g,0,none⟩) l.length l.length) (l.map Prod.fst):=by
 have hlen:(l.map Prod.fst).length=l.length:=List.length_map _
 have hget:∀j e,(l.map Prod.fst)[j]? =some e→∃x:Tr.E × Value,l[j]? =some x∧x.1=e:=fun j e hj=>by
  rw [List.getElem?_map,Option.map_eq_some_iff] at hj
  exact hj
 have key:=SlE.row (w:=w) g 0 l.length (l.map Prod.fst) (fun j=>(l[j]?.map Prod.snd).getD (.bool false)) (by rw [hlen];exact Nat.le_refl _) (by unfold maxLen;omega) (fun j e hj=>?_) (fun j e hj=>?_)
 ·rw [hlen] at key;exact key
 ·obtain⟨x,hx,rfl⟩:=hget j e hj
  have hat:∀q u,(eCells x)[q]? =some u→q<6→w.cell? ⟨g,j*6+q,none⟩=some u:=fun q u hu hq=>zB h (by rw [←Array.getElem?_toList,hc,flat6 l j q x hx hq,hu])
  simp only [Nat.zero_add]
  have hv:((l[j]?.map Prod.snd).getD (.bool false))=x.2:=by rw [hx];rfl
  rw [hv]
  exact⟨⟨hat 0 _ rfl (by omega),hat 1 _ rfl (by omega),hat 2 _ rfl (by omega),hat 3 _ rfl (by omega),hat 4 _ rfl (by omega),hat 5 _ rfl (by omega)⟩,(hr x (List.mem_of_getElem? hx)).1⟩
 ·obtain⟨x,hx,rfl⟩:=hget j e hj
  have hv:((l[j]?.map Prod.snd).getD (.bool false))=x.2:=by rw [hx];rfl
  rw [hv]
  exact(hr x (List.mem_of_getElem? hx)).2
section
variable {α:Type} (f:α→List Value) (k:Nat)
def flatV (l:List α):List Value:=l.flatMap f
theorem zAP (l r:List α):flatV f (l++r)=flatV f l++flatV f r:=List.flatMap_append
theorem zC4:flatV f []= []:=rfl
theorem z8 (x:α) (r:List α):flatV f (x::r)=f x++flatV f r:=List.flatMap_cons
variable (hf:∀a,(f a).length=k)
include hf
theorem zBD:∀l:List α,(flatV f l).length=l.length*k
 | []=>by simp [flatV]
 |x::r=>by rw [z8,List.length_append,hf,zBD r,List.length_cons,Nat.add_mul,Nat.one_mul,Nat.add_comm]
theorem zB8:∀(l:List α) (j:Nat) (a:α) (i:Nat),i<k→l[j]? =some a→(flatV f l)[j*k+i]? =(f a)[i]?
 | [],j,a,i,_,h=>by simp at h
 |x::r,0,a,i,hi,h=>by
  simp only [List.getElem?_cons_zero,Option.some.injEq] at h
  subst h
  rw [z8,Nat.zero_mul,Nat.zero_add,List.getElem?_append_left (by rw [hf];exact hi)]
 |x::r,j+1,a,i,hi,h=>by
  rw [List.getElem?_cons_succ] at h
  rw [z8,List.getElem?_append_right (by rw [hf,Nat.add_mul];omega),hf]
  have e:(j+1)*k+i -k=j*k+i:=by rw [Nat.add_mul];omega
  rw [e]
  exact zB8 r j a i hi h
theorem zCK {w:World} {b:Nat}:∀(l:List α) (o:Nat),(∀j a,l[j]? =some a→∀i u,(f a)[i]? =some u→w.cell? ⟨b,o+j*k+i,none⟩=some u)→∀j u,(flatV f l)[j]? =some u→w.cell? ⟨b,o+j,none⟩=some u
 | [],o,_,j,u,h=>by simp [flatV] at h
 |x::r,o,h,j,u,hj=>by
  rw [z8] at hj
  by_cases hlt:j<k
  ·rw [List.getElem?_append_left (by rw [hf];exact hlt)] at hj
   have:=h 0 x rfl j u hj
   rw [Nat.zero_mul,Nat.add_zero] at this
   exact this
  ·rw [List.getElem?_append_right (by rw [hf];omega),hf] at hj
   have:=zCK r (o+k) (fun j' a hj' i u hu=>by
    have:=h (j'+1) a (by rw [List.getElem?_cons_succ];exact hj') i u hu
    rw [Nat.add_mul,Nat.one_mul,Nat.add_comm (j'*k) k,←Nat.add_assoc] at this
    exact this) (j -k) u hj
   have e:o+k+(j -k)=o+j:=by omega
   rw [e] at this
   exact this
end
def SrcAt {α:Type} (w:World) (f:α→List Value) (v:Value) (l:List α):Prop:=
 (l= []∧∃p c,v= .slice p 0 c)∨∃b o c,v= .slice (some ⟨b,o,none⟩) l.length c∧∀j u,(flatV f l)[j]? =some u→w.cell? ⟨b,o+j,none⟩=some u
theorem SrcAt.keep {α:Type} {f:α→List Value} {w w':World} {v:Value} {l:List α} (h:SrcAt w f v l) (hb:Below w.heap.size w w'):SrcAt w' f v l:=by
 rcases h with h|⟨b,o,c,e,h⟩
 ·exact .inl h
 ·exact .inr ⟨b,o,c,e,fun j u hj=>zA hb (h j u hj)⟩
theorem zCR {P:Program} {w:World} (base:Nat) (t ty e:TypeId) (i:TypeInfo) (size:Nat) (ht:P.underlying t=some (.slice e)) (hi:P.info? e=some i)
 (v:Value) (n:Nat) (xs:List Value) (hown:w.ownsRow base e size v n xs) (p:Option Addr) (c:Nat):
 (Builtin.append_ #[t,t] ty #[v,.slice p 0 c]).run P w= .ok v w:=by
 cases p with
 |none=>
  rcases hown.2 with ⟨rfl,rfl⟩|⟨g,cap,cur,rfl,_,_,hnc,_⟩
  ·simp [Builtin.append_,run_underlying ht,sizeOf,typeInfo,hi,Builtin.lenOf,Builtin.firstCells]
  ·simp [Builtin.append_,run_underlying ht,sizeOf,typeInfo,hi,Builtin.lenOf,Builtin.firstCells,hnc,storeCells]
 |some q=>
  rcases hown.2 with ⟨rfl,rfl⟩|⟨g,cap,cur,rfl,_,_,hnc,_⟩
  ·simp [Builtin.append_,run_underlying ht,sizeOf,typeInfo,hi,Builtin.lenOf,Builtin.firstCells,loadCells,loadCellsFrom]
  ·simp [Builtin.append_,run_underlying ht,sizeOf,typeInfo,hi,Builtin.lenOf,Builtin.firstCells,hnc,storeCells,loadCells,loadCellsFrom,storeCells]
theorem zS0 {w:World} {base:Nat} {e:TypeId} {size n:Nat} {v:Value} {xs:List Value} (h:w.ownsRow base e size v n xs) {q:Nat} (hq:v.ownBlock=some q):base≤q∧∃cur,w.heap[q]? =some (.cells cur e (0,0)):=by
 rcases h.2 with ⟨rfl,_⟩|⟨g,cap,cur,rfl,hb,hg,_⟩
 ·cases hq
 ·cases hq;exact⟨hb,cur,hg⟩
abbrev CT:=Tr.C × Value × Value
abbrev MT:=Tr.M × Value × Value
def cCells (x:CT):List Value:= [.string x.1.name,.bool x.1.actor,x.2.1,x.2.2]
def mCells (x:MT):List Value:= [.string x.1.name,x.2.1,x.2.2]
theorem zOK (x:CT):(cCells x).length=4:=rfl
theorem zNO (x:MT):(mCells x).length=3:=rfl
theorem SlStr.one {w:World} {v:Value} {l:List ByteArray} (h:SlStr w v l):v.oneCell'=true:=by
 obtain⟨p,c,rfl,_⟩:=h;rfl
theorem SlS.one {w:World} {v:Value} {l:List Tr.S} (h:SlS w v l):v.oneCell'=true:=by
 obtain⟨p,c,rfl,_⟩:=h.form;rfl
theorem SlM.one {w:World} {v:Value} {l:List Tr.M} (h:SlM w v l):v.oneCell'=true:=by
 obtain⟨p,c,rfl,_⟩:=h;rfl
theorem zB3 {α:Type} {f:α→List Value} {k:Nat} (hf:∀a,(f a).length=k) {w:World} {base:Nat} {t:TypeId} {v:Value} {l:List α} (h:w.ownsRow base t k v l.length (flatV f l)):
 (l= []∧v= .slice none 0 0)∨∃g cap,v= .slice (some ⟨g,0,none⟩) l.length cap∧g<w.heap.size∧l.length≤cap∧cap≤maxLen∧∀j a,l[j]? =some a→∀i u,(f a)[i]? =some u→w.cell? ⟨g,j*k+i,none⟩=some u:=by
 rcases h.2 with ⟨rfl,h0⟩|⟨g,cap,cur,rfl,_,hg,hnc,hcm,hcs,htk⟩
 ·exact .inl ⟨List.eq_nil_of_length_eq_zero h0,rfl⟩
 ·refine .inr ⟨g,cap,rfl,lt_of_block hg,hnc,hcm,fun j a hj i u hu=>?_⟩
  have hi:i<k:=by have:=(List.getElem?_eq_some_iff.1 hu).1;rw [hf] at this;exact this
  have h2:=zB8 f k hf l j a i hi hj
  rw [hu] at h2
  have hlt:=(List.getElem?_eq_some_iff.1 h2).1
  rw [zBD f k hf] at hlt
  rw [←htk,List.getElem?_take_of_lt hlt] at h2
  exact zB hg (by rw [←Array.getElem?_toList];exact h2)
theorem SlC.rows {w:World} {v:Value} {cs:List Tr.C} (h:SlC w v cs):∃l:List CT,l.map Prod.fst=cs∧(∀x∈l,ReadC w x.1 x.2.1 x.2.2)∧SrcAt w cCells v l:=by
 obtain⟨p,c,rfl,hl,hn,hx⟩:=h
 by_cases h0:cs= []
 ·subst h0
  exact⟨[],rfl,fun x hx=>absurd hx (by simp),.inl ⟨rfl,p,c,rfl⟩⟩
 ·obtain⟨b,o,rfl⟩:∃b o,p=some ⟨b,o,none⟩:=by
   cases cs with
   |nil=>exact absurd rfl h0
   |cons a r=>obtain ⟨_,b,o,_,_,e,_⟩:=hx 0 a rfl;exact⟨b,o,e⟩
  have key:∀j,∃a:Value × Value,∀m,cs[j]? =some m→ReadC w m a.1 a.2∧CellsC w b (o+j*4) m a.1 a.2:=by
   intro j
   cases hj:cs[j]? with
   |none=>exact ⟨(.bool false,.bool false),fun m hm=>by cases hm⟩
   |some m=>
    obtain⟨hnm,b',o',x,y,e,_,hc,h1,h2⟩:=hx j m hj
    cases e
    exact⟨(x,y),fun m' hm=>by cases hm;exact⟨⟨hnm,h1,h2⟩,hc⟩⟩
  let A:Nat→Value × Value:=fun j=>Classical.choose (key j)
  have hA:∀j m,cs[j]? =some m→ReadC w m (A j).1 (A j).2∧CellsC w b (o+j*4) m (A j).1 (A j).2:=fun j=>Classical.choose_spec (key j)
  have hget:∀(j:Nat) (x:CT),(cs.mapIdx fun j m=>((m,A j):CT))[j]? =some x→cs[j]? =some x.1∧x.2=A j:=by
   intro j x hj
   rw [List.getElem?_mapIdx,Option.map_eq_some_iff] at hj
   obtain⟨m,hm,rfl⟩:=hj
   exact⟨hm,rfl⟩
  refine⟨cs.mapIdx fun j m=>(m,A j),?_,fun x hxm=>?_,.inr ⟨b,o,c,by rw [List.length_mapIdx],fun j u hj=>?_⟩⟩
  ·apply List.ext_getElem?
   intro j
   rw [List.getElem?_map,List.getElem?_mapIdx,Option.map_map]
   cases cs[j]? <;>rfl
  ·obtain⟨j,hj,rfl⟩:=List.getElem_of_mem hxm
   obtain⟨e1,e2⟩:=hget j _ (List.getElem?_eq_getElem hj)
   have:=(hA j _ e1).1
   rw [←e2] at this
   exact this
  ·refine zCK cCells 4 zOK _ o (fun j a ha i u hu=>?_) j u hj
   obtain⟨e1,e2⟩:=hget j a ha
   have h4:=(hA j _ e1).2
   rw [←e2] at h4
   match i,hu with
   |0,hu=>cases hu;exact h4.1
   |1,hu=>cases hu;exact h4.2.1
   |2,hu=>cases hu;exact h4.2.2.1
   |3,hu=>cases hu;exact h4.2.2.2
theorem SlM.rows {w:World} {v:Value} {cs:List Tr.M} (h:SlM w v cs):∃l:List MT,l.map Prod.fst=cs∧(∀x∈l,ReadM w x.1 x.2.1 x.2.2)∧SrcAt w mCells v l:=by
 obtain⟨p,c,rfl,hl,hn,hx⟩:=h
 by_cases h0:cs= []
 ·subst h0
  exact⟨[],rfl,fun x hx=>absurd hx (by simp),.inl ⟨rfl,p,c,rfl⟩⟩
 ·obtain⟨b,o,rfl⟩:∃b o,p=some ⟨b,o,none⟩:=by
   cases cs with
   |nil=>exact absurd rfl h0
   |cons a r=>obtain ⟨_,b,o,_,_,e,_⟩:=hx 0 a rfl;exact⟨b,o,e⟩
  have key:∀j,∃a:Value × Value,∀m,cs[j]? =some m→ReadM w m a.1 a.2∧CellsM w b (o+j*3) m a.1 a.2:=by
   intro j
   cases hj:cs[j]? with
   |none=>exact ⟨(.bool false,.bool false),fun m hm=>by cases hm⟩
   |some m=>
    obtain⟨hnm,b',o',x,y,e,_,hc,h1,h2⟩:=hx j m hj
    cases e
    exact⟨(x,y),fun m' hm=>by cases hm;exact⟨⟨hnm,h1,h2⟩,hc⟩⟩
  let A:Nat→Value × Value:=fun j=>Classical.choose (key j)
  have hA:∀j m,cs[j]? =some m→ReadM w m (A j).1 (A j).2∧CellsM w b (o+j*3) m (A j).1 (A j).2:=fun j=>Classical.choose_spec (key j)
  have hget:∀(j:Nat) (x:MT),(cs.mapIdx fun j m=>((m,A j):MT))[j]? =some x→cs[j]? =some x.1∧x.2=A j:=by
   intro j x hj
   rw [List.getElem?_mapIdx,Option.map_eq_some_iff] at hj
   obtain⟨m,hm,rfl⟩:=hj
   exact⟨hm,rfl⟩
  refine⟨cs.mapIdx fun j m=>(m,A j),?_,fun x hxm=>?_,.inr ⟨b,o,c,by rw [List.length_mapIdx],fun j u hj=>?_⟩⟩
  ·apply List.ext_getElem?
   intro j
   rw [List.getElem?_map,List.getElem?_mapIdx,Option.map_map]
   cases cs[j]? <;>rfl
  ·obtain⟨j,hj,rfl⟩:=List.getElem_of_mem hxm
   obtain⟨e1,e2⟩:=hget j _ (List.getElem?_eq_getElem hj)
   have:=(hA j _ e1).1
   rw [←e2] at this
   exact this
  ·refine zCK mCells 3 zNO _ o (fun j a ha i u hu=>?_) j u hj
   obtain⟨e1,e2⟩:=hget j a ha
   have h4:=(hA j _ e1).2
   rw [←e2] at h4
   match i,hu with
   |0,hu=>cases hu;exact h4.1
   |1,hu=>cases hu;exact h4.2.1
   |2,hu=>cases hu;exact h4.2.2
abbrev ET:=Tr.E × Value
theorem zA7 (x:ET):(eCells x).length=6:=rfl
def ReadET (w:World) (x:ET):Prop:=BdE x.1∧SlE w x.2 x.1.args
theorem SlE.one {w:World} {v:Value} {l:List Tr.E} (h:SlE w v l):v.oneCell'=true:=by cases h<;>rfl
theorem zEX {w:World} {l:List ET} (h:∀x∈l,ReadET w x):∀a∈l,∀u∈eCells a,u.oneCell'=true:=by
 intro a ha u hu
 obtain⟨_,h1⟩:=h a ha
 simp only [eCells,List.mem_cons,List.not_mem_nil,or_false] at hu
 rcases hu with rfl|rfl|rfl|rfl|rfl|rfl
 ·rfl
 ·rfl
 ·rfl
 ·rfl
 ·rfl
 ·exact SlE.one h1
theorem zTO {w:World} {base:Nat} {v:Value} {l:List ET} (h:w.ownsRow base 37 6 v l.length (flatV eCells l)) (hx:∀x∈l,ReadET w x):SlE w v (l.map Prod.fst):=by
 rcases zB3 zA7 h with ⟨rfl,rfl⟩|⟨g,cap,rfl,hg,hn,hm,hc⟩
 ·exact .nil _ _
 ·have hlen:(l.map Prod.fst).length=l.length:=List.length_map ..
  have e:(Value.slice (some ⟨g,0,none⟩) l.length cap)= .slice (some ⟨g,0,none⟩) (l.map Prod.fst).length cap:=by rw [hlen]
  rw [e]
  refine .row g 0 cap _ (fun j=>(l[j]?.map Prod.snd).getD (.bool false)) (by rw [hlen];exact hn) hm (fun j m hj=>?_) (fun j m hj=>?_)
  ·rw [List.getElem?_map,Option.map_eq_some_iff] at hj
   obtain⟨a,ha,rfl⟩:=hj
   have c:=hc j a ha
   rw [ha,Nat.zero_add]
   exact⟨⟨c 0 _ rfl,c 1 _ rfl,c 2 _ rfl,c 3 _ rfl,c 4 _ rfl,c 5 _ rfl⟩,(hx a (List.mem_of_getElem? ha)).1⟩
  ·rw [List.getElem?_map,Option.map_eq_some_iff] at hj
   obtain⟨a,ha,rfl⟩:=hj
   rw [ha]
   exact(hx a (List.mem_of_getElem? ha)).2
theorem SlE.rows {w:World} {v:Value} {es:List Tr.E} (h:SlE w v es):∃l:List ET,l.map Prod.fst=es∧(∀x∈l,ReadET w x)∧SrcAt w eCells v l:=by
 cases h with
 |nil p c=>exact ⟨[],rfl,fun x hx=>absurd hx (by simp),.inl ⟨rfl,p,c,rfl⟩⟩
 |row b o c l A hn hm hc ha=>
  have hget:∀(j:Nat) (x:ET),(es.mapIdx fun j m=>((m,A j):ET))[j]? =some x→es[j]? =some x.1∧x.2=A j:=by
   intro j x hj
   rw [List.getElem?_mapIdx,Option.map_eq_some_iff] at hj
   obtain⟨m,hm,rfl⟩:=hj
   exact⟨hm,rfl⟩
  refine⟨es.mapIdx fun j m=>(m,A j),?_,fun x hxm=>?_,.inr ⟨b,o,c,by rw [List.length_mapIdx],fun j u hj=>?_⟩⟩
  ·apply List.ext_getElem?
   intro j
   rw [List.getElem?_map,List.getElem?_mapIdx,Option.map_map]
   cases es[j]? <;>rfl
  ·obtain⟨j,hj,rfl⟩:=List.getElem_of_mem hxm
   obtain⟨e1,e2⟩:=hget j _ (List.getElem?_eq_getElem hj)
   refine⟨(hc j _ e1).2,?_⟩
   rw [e2]
   exact ha j _ e1
  ·refine zCK eCells 6 zA7 (es.mapIdx fun j m=>((m,A j):ET)) o (fun j' a hj' i u hu=>?_) j u hj
   obtain⟨e1,e2⟩:=hget j' a hj'
   obtain⟨⟨x0,x1,x2,x3,x4,x5⟩,_⟩:=hc j' _ e1
   rw [←e2] at x5
   simp only [eCells] at hu
   match i,hu with
   |0,hu=>cases hu;exact x0
   |1,hu=>cases hu;exact x1
   |2,hu=>cases hu;exact x2
   |3,hu=>cases hu;exact x3
   |4,hu=>cases hu;exact x4
   |5,hu=>cases hu;exact x5
   |i+6,hu=>simp at hu
theorem info_parts {i:Option TypeInfo} {z:Value} {s b:Nat} (h:i.map (fun i=>(i.zero,i.size,i.bytes))=some (some z,s,b)):∃i0,i=some i0∧i0.zero=some z∧i0.size=s∧i0.bytes=b:=by
 cases i with
 |none=>cases h
 |some i0=>
  simp only [Option.map_some,Option.some.injEq,Prod.mk.injEq] at h
  exact⟨i0,rfl,h.1,h.2.1,h.2.2⟩
theorem exprInfo:(Tryz.prog.info? 37).map (fun i=>(i.zero,i.size,i.bytes))=some (some (.agg #[.int .i64 0,.int .i64 0,.int .i64 0,.string ⟨#[]⟩,.bool false,.slice none 0 0]),6,72):=by kernel_rfl
theorem own_form {w:World} {b:Nat} {e:TypeId} {size n:Nat} {v:Value} {xs:List Value} (h:w.ownsRow b e size v n xs):∃p cap,v= .slice p n cap:=by
 rcases h.2 with ⟨rfl,rfl⟩|⟨g,cap,cur,rfl,_⟩
 ·exact⟨_,_,rfl⟩
 ·exact⟨_,_,rfl⟩
def nCells (x:ByteArray):List Value:= [.string x]
theorem zB4 (x:ByteArray):(nCells x).length=1:=rfl
theorem zD4 {w:World} {base:Nat} {v:Value} {l:List ByteArray} (h:w.ownsRow base 9 1 v l.length (flatV nCells l)) (hx:∀x∈l,x.size≤maxLen):SlStr w v l:=by
 rcases zB3 zB4 h with ⟨rfl,rfl⟩|⟨g,cap,rfl,hg,hn,hm,hc⟩
 ·exact⟨_,_,rfl,Nat.zero_le _,fun h=>absurd rfl h,fun j n hj=>by simp at hj⟩
 ·refine⟨some ⟨g,0,none⟩,cap,rfl,by omega,fun _=>⟨hn,hm⟩,fun j m hj=>?_⟩
  have c:=hc j m hj 0 _ rfl
  rw [Nat.mul_one] at c
  exact⟨hx m (List.mem_of_getElem? hj),g,0,rfl,hg,by rw [Nat.zero_add];exact c⟩
theorem strInfo:(Tryz.prog.info? 9).map (fun i=>(i.zero,i.size,i.bytes))=some (some (.string ⟨#[]⟩),1,16):=by kernel_rfl
theorem blk1 {w:World} {g:Nat} {cs:Array Value} {t:TypeId} (h:w.heap[g]? =some (.cells cs t (0,0))) (q:Nat) (u:Value) (hu:cs[q]? =some u):w.cell? ⟨g,0+q,none⟩=some u:=by
 rw [Nat.zero_add];exact zB h hu
theorem zD5 {w:World} {g:Nat} {e:Tr.E} {a:Value} {t:TypeId} (h:w.heap[g]? =some (.cells #[.int .i64 e.kind,.int .i64 e.op,.int .i64 e.int,.string e.name,.bool e.at_,a] t (0,0))) (hb:BdE e) (hs:SlE w a e.args):SlE w (.slice (some ⟨g,0,none⟩) 1 1) [e]:=
 zH9 h [(e,a)] (by simp) rfl (fun z hz=>by
  obtain rfl:=List.mem_singleton.1 hz
  exact⟨hb,hs⟩)
theorem zH8 {w:World} {g:Nat} {s:Tr.S} {x y z:Value} {t:TypeId} (h:w.heap[g]? =some (.cells #[.int .i64 s.kind,.string s.name,x,y,z] t (0,0))) (hb:BdS s) (hx:SlE w x s.exprs) (hy:SlS w y s.body) (hz:SlS w z s.els):SlS w (.slice (some ⟨g,0,none⟩) 1 1) [s]:=by
 refine .row g 0 1 [s] (fun _=>x) (fun _=>y) (fun _=>z) (Nat.le_refl _) (by decide) (fun j s' hj=>?_) (fun j s' hj=>?_) (fun j s' hj=>?_) (fun j s' hj=>?_)
 all_goals
  obtain rfl:j=0:=by have:=(List.getElem?_eq_some_iff.1 hj).1;simpa using this
  cases hj
 ·exact⟨⟨blk1 h 0 _ rfl,blk1 h 1 _ rfl,blk1 h 2 _ rfl,blk1 h 3 _ rfl,blk1 h 4 _ rfl⟩,hb⟩
 ·exact hx
 ·exact hy
 ·exact hz
theorem zL4 {w:World} {g:Nat} {m:Tr.M} {x y:Value} {t:TypeId} (h:w.heap[g]? =some (.cells #[.string m.name,x,y] t (0,0))) (hn:m.name.size≤maxLen) (hx:SlStr w x m.params) (hy:SlS w y m.body):SlM w (.slice (some ⟨g,0,none⟩) 1 1) [m]:=by
 refine⟨_,1,rfl,show 1≤maxLen by decide,fun _=>⟨Nat.le_refl _,by decide⟩,fun j m' hj=>?_⟩
 obtain rfl:j=0:=by have:=(List.getElem?_eq_some_iff.1 hj).1;simpa using this
 cases hj
 exact⟨hn,g,0,x,y,rfl,lt_of_block h,⟨blk1 h 0 _ rfl,blk1 h 1 _ rfl,blk1 h 2 _ rfl⟩,hx,hy⟩
theorem zL5 {w:World} {g:Nat} {c:Tr.C} {x y:Value} {t:TypeId} (h:w.heap[g]? =some (.cells #[.string c.name,.bool c.actor,x,y] t (0,0))) (hn:c.name.size≤maxLen) (hx:SlStr w x c.fields) (hy:SlM w y c.methods):SlC w (.slice (some ⟨g,0,none⟩) 1 1) [c]:=by
 refine⟨_,1,rfl,show 1≤maxLen by decide,fun _=>⟨Nat.le_refl _,by decide⟩,fun j m' hj=>?_⟩
 obtain rfl:j=0:=by have:=(List.getElem?_eq_some_iff.1 hj).1;simpa using this
 cases hj
 exact⟨hn,g,0,x,y,rfl,lt_of_block h,⟨blk1 h 0 _ rfl,blk1 h 1 _ rfl,blk1 h 2 _ rfl,blk1 h 3 _ rfl⟩,hx,hy⟩
theorem zF6 (w:World) (p:Option Addr) (c:Nat):SlStr w (.slice p 0 c) []:=⟨p,c,rfl,Nat.zero_le _,fun h=>absurd rfl h,fun j n hj=>by simp at hj⟩
theorem zJD {w:World} {g:Nat} {l:List ByteArray} {t:TypeId} {cs:Array Value} (h:w.heap[g]? =some (.cells cs t (0,0))) (hcs:cs=(l.map Value.string).toArray) (hl:l.length≤1000) (hs:∀s∈l,s.size≤maxLen):SlStr w (.slice (some ⟨g,0,none⟩) l.length l.length) l:=by
 subst hcs
 refine⟨_,_,rfl,by unfold maxLen;omega,fun _=>⟨Nat.le_refl _,by unfold maxLen;omega⟩,fun j n hj=>⟨hs n (List.mem_of_getElem? hj),g,0,rfl,lt_of_block h,?_⟩⟩
 rw [Nat.zero_add]
 refine zB h ?_
 rw [List.getElem?_toArray,List.getElem?_map,hj]
 rfl
end Pw
end Go.Proofs.YtcnmfcgmnkncaaaGreatDoor
