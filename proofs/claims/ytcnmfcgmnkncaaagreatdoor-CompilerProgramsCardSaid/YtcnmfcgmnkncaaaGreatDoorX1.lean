/-
  Tree, TrHide, LexSpec, TrSpec, TrFew.
-/
import Derived.Below
import Derived.Deep.Slices
import Derived.Deep.Fields
import Derived.ChangeSame
import Derived.Laws.AppendOwn
import Derived.Test.YtcnmfcgmnkncaaaGreatDoorRows
import Derived.WalkKit
import Derived.WalkLawsBesides
import Derived.WalkSpells
import Derived.LoopTactic
import Derived.Test.YtcnmfcgmnkncaaaGreatDoorXH0
set_option maxRecDepth 100000
set_option maxHeartbeats 40000000
open Go.Proofs.Tryz
namespace Go.Proofs.YtcnmfcgmnkncaaaGreatDoor
open Go.RowKit
namespace Tr
inductive E where
 |mk (kind op int:Int) (name:BA) (at_:Bool) (args:List E)
def E.kind:E->Int| .mk k _ _ _ _ _=>k
def E.op:E->Int| .mk _ o _ _ _ _=>o
def E.int:E->Int| .mk _ _ i _ _ _=>i
def E.name:E->BA| .mk _ _ _ n _ _=>n
def E.at_:E->Bool| .mk _ _ _ _ a _=>a
def E.args:E->List E| .mk _ _ _ _ _ l=>l
inductive S where
 |mk (kind:Int) (name:BA) (exprs:List E) (body els:List S)
def S.kind:S->Int| .mk k _ _ _ _=>k
def S.name:S->BA| .mk _ n _ _ _=>n
def S.exprs:S->List E| .mk _ _ x _ _=>x
def S.body:S->List S| .mk _ _ _ b _=>b
def S.els:S->List S| .mk _ _ _ _ b=>b
structure M where
 name:BA
 params:List BA
 body:List S
structure C where
 name:BA
 actor:Bool
 fields:List BA
 methods:List M
def I64 (n:Int):Prop:= -9223372036854775808<=n/\n<=9223372036854775807
def E.deep:E->Nat
 | .mk _ _ _ _ _ args=>1+deeps args
where deeps:List E->Nat
 | []=>0
 |e::r=>max (E.deep e) (deeps r)
def S.deep:S->Nat
 | .mk _ _ _ body els=>1+max (deeps body) (deeps els)
where deeps:List S->Nat
 | []=>0
 |e::r=>max (S.deep e) (deeps r)
theorem E.deeps_get:∀(l:List E) (j:Nat) (e:E),l[j]? =some e->E.deep e<=E.deep.deeps l
 | [],j,e,h=>by simp at h
 |x::r,0,e,h=>by cases h;unfold E.deep.deeps;exact Nat.le_max_left _ _
 |x::r,j+1,e,h=>by
  unfold E.deep.deeps;exact kG (E.deeps_get r j e (by simpa using h)) (Nat.le_max_right _ _)
theorem S.deeps_get:∀(l:List S) (j:Nat) (e:S),l[j]? =some e->S.deep e<=S.deep.deeps l
 | [],j,e,h=>by simp at h
 |x::r,0,e,h=>by cases h;unfold S.deep.deeps;exact Nat.le_max_left _ _
 |x::r,j+1,e,h=>by
  unfold S.deep.deeps;exact kG (S.deeps_get r j e (by simpa using h)) (Nat.le_max_right _ _)
theorem E.deep_args {e:E} {n:Nat} (h:e.deep<=n+1) {j:Nat} {x:E} (hj:e.args[j]? =some x):x.deep<=n:=by
 cases e with
 |mk k o i nm a l=>
  unfold E.deep at h;have:=E.deeps_get l j x hj;omega
theorem S.deep_body {s:S} {n:Nat} (h:s.deep<=n+1):S.deep.deeps s.body<=n:=by
 cases s with
 |mk k nm x b l=>
  unfold S.deep at h
  show S.deep.deeps b<=n
  have:=Nat.le_max_left (S.deep.deeps b) (S.deep.deeps l);omega
theorem S.deep_els {s:S} {n:Nat} (h:s.deep<=n+1):S.deep.deeps s.els<=n:=by
 cases s with
 |mk k nm x b l=>
  unfold S.deep at h
  show S.deep.deeps l<=n
  have:=Nat.le_max_right (S.deep.deeps b) (S.deep.deeps l);omega
end Tr
structure BdE (e:Tr.E):Prop where
 kind:Tr.I64 e.kind
 op:Tr.I64 e.op
 int:Tr.I64 e.int
 name:e.name.size<=maxLen
structure BdS (s:Tr.S):Prop where
 kind:Tr.I64 s.kind
 name:s.name.size<=maxLen
def CellsE (w:World) (b o:Nat) (e:Tr.E) (a:Value):Prop:=
 w.cell? ⟨b,o,none⟩=some (.int .i64 e.kind)/\w.cell? ⟨b,o+1,none⟩=some (.int .i64 e.op)/\w.cell? ⟨b,o+2,none⟩=some (.int .i64 e.int)/\
 w.cell? ⟨b,o+3,none⟩=some (.string e.name)/\w.cell? ⟨b,o+4,none⟩=some (.bool e.at_)/\w.cell? ⟨b,o+5,none⟩=some a
def CellsS (w:World) (b o:Nat) (s:Tr.S) (x y z:Value):Prop:=
 w.cell? ⟨b,o,none⟩=some (.int .i64 s.kind)/\w.cell? ⟨b,o+1,none⟩=some (.string s.name)/\
 w.cell? ⟨b,o+2,none⟩=some x/\w.cell? ⟨b,o+3,none⟩=some y/\w.cell? ⟨b,o+4,none⟩=some z
inductive SlE (w:World):Value->List Tr.E->Prop
 |nil (p:Option Addr) (c:Nat):SlE w (.slice p 0 c) []
 |row (b o c:Nat) (l:List Tr.E) (A:Nat->Value) (hn:l.length<=c) (hm:c<=maxLen) (hc:∀j e,l[j]? =some e->CellsE w b (o+j*6) e (A j)/\BdE e)
  (ha:∀j e,l[j]? =some e->SlE w (A j) e.args):SlE w (.slice (some ⟨b,o,none⟩) l.length c) l
inductive SlS (w:World):Value->List Tr.S->Prop
 |nil (p:Option Addr) (c:Nat):SlS w (.slice p 0 c) []
 |row (b o c:Nat) (l:List Tr.S) (X Y Z:Nat->Value) (hn:l.length<=c) (hm:c<=maxLen) (hc:∀j s,l[j]? =some s->CellsS w b (o+j*5) s (X j) (Y j) (Z j)/\BdS s)
  (hx:∀j s,l[j]? =some s->SlE w (X j) s.exprs) (hy:∀j s,l[j]? =some s->SlS w (Y j) s.body) (hz:∀j s,l[j]? =some s->SlS w (Z j) s.els):SlS w (.slice (some ⟨b,o,none⟩) l.length c) l
theorem zAR {w:World} {b o:Nat} {v:Value} (h:w.cell? ⟨b,o,none⟩=some v):b<w.heap.size:=by
 rcases Nat.lt_or_ge b w.heap.size with hlt|hge
 ·exact hlt
 ·unfold World.cell? at h;rw [Array.getElem?_eq_none hge] at h;cases h
theorem zA {w w':World} {b o:Nat} {v:Value} (hb:Below w.heap.size w w') (h:w.cell? ⟨b,o,none⟩=some v):w'.cell? ⟨b,o,none⟩=some v:=
 (hb.cell (zAR h)).trans h
theorem CellsE.keep {w w':World} {b o:Nat} {e:Tr.E} {a:Value} (h:CellsE w b o e a) (hb:Below w.heap.size w w'):CellsE w' b o e a:=
 ⟨zA hb h.1,zA hb h.2.1,zA hb h.2.2.1,zA hb h.2.2.2.1,zA hb h.2.2.2.2.1,zA hb h.2.2.2.2.2⟩
theorem CellsS.keep {w w':World} {b o:Nat} {e:Tr.S} {x y z:Value} (h:CellsS w b o e x y z) (hb:Below w.heap.size w w'):CellsS w' b o e x y z:=
 ⟨zA hb h.1,zA hb h.2.1,zA hb h.2.2.1,zA hb h.2.2.2.1,zA hb h.2.2.2.2⟩
theorem SlE.keep {w w':World} {v:Value} {l:List Tr.E} (h:SlE w v l) (hb:Below w.heap.size w w'):SlE w' v l:=by
 induction h with
 |nil p c=>exact .nil p c
 |row b o c l A hn hm hc ha ih=>exact .row b o c l A hn hm (fun j e hj=>⟨(hc j e hj).1.keep hb,(hc j e hj).2⟩) (fun j e hj=>ih j e hj)
theorem SlS.keep {w w':World} {v:Value} {l:List Tr.S} (h:SlS w v l) (hb:Below w.heap.size w w'):SlS w' v l:=by
 induction h with
 |nil p c=>exact .nil p c
 |row b o c l X Y Z hn hm hc hx hy hz ih1 ih2=>exact .row b o c l X Y Z hn hm (fun j e hj=>⟨(hc j e hj).1.keep hb,(hc j e hj).2⟩) (fun j e hj=>(hx j e hj).keep hb) (fun j e hj=>ih1 j e hj) (fun j e hj=>ih2 j e hj)
theorem SlE.form {w:World} {v:Value} {l:List Tr.E} (h:SlE w v l):∃p c,v= .slice p l.length c/\(l≠ []->l.length<=c/\c<=maxLen):=by
 cases h with
 |nil p c=>exact ⟨p,c,rfl,fun h=>absurd rfl h⟩
 |row b o c l A hn hm hc ha=>exact ⟨_,c,rfl,fun _=>⟨hn,hm⟩⟩
theorem SlS.form {w:World} {v:Value} {l:List Tr.S} (h:SlS w v l):∃p c,v= .slice p l.length c/\(l≠ []->l.length<=c/\c<=maxLen):=by
 cases h with
 |nil p c=>exact ⟨p,c,rfl,fun h=>absurd rfl h⟩
 |row b o c l X Y Z hn hm hc hx hy hz=>exact ⟨_,c,rfl,fun _=>⟨hn,hm⟩⟩
theorem SlE.len {w:World} {v:Value} {l:List Tr.E} (h:SlE w v l):l.length<=maxLen:=by
 cases h with
 |nil p c=>exact kO _
 |row b o c l A hn hm hc ha=>omega
theorem SlS.len {w:World} {v:Value} {l:List Tr.S} (h:SlS w v l):l.length<=maxLen:=by
 cases h with
 |nil p c=>exact kO _
 |row b o c l X Y Z hn hm hc hx hy hz=>omega
theorem SlE.get {w:World} {p:Option Addr} {n c:Nat} {l:List Tr.E} (h:SlE w (.slice p n c) l) {j:Nat} {e:Tr.E} (hj:l[j]? =some e):
 ∃b o a,p=some ⟨b,o,none⟩/\b<w.heap.size/\CellsE w b (o+j*6) e a/\BdE e/\SlE w a e.args:=by
 generalize hv:(Value.slice p n c)=v at h
 cases h with
 |nil p c=>simp at hj
 |row b o c l A hn hm hc ha=>cases hv;exact⟨b,o,A j,rfl,zAR (hc j e hj).1.1,(hc j e hj).1,(hc j e hj).2,ha j e hj⟩
theorem SlS.get {w:World} {p:Option Addr} {n c:Nat} {l:List Tr.S} (h:SlS w (.slice p n c) l) {j:Nat} {e:Tr.S} (hj:l[j]? =some e):
 ∃b o x y z,p=some ⟨b,o,none⟩/\b<w.heap.size/\CellsS w b (o+j*5) e x y z/\BdS e/\SlE w x e.exprs/\SlS w y e.body/\SlS w z e.els:=by
 generalize hv:(Value.slice p n c)=v at h
 cases h with
 |nil p c=>simp at hj
 |row b o c l X Y Z hn hm hc hx hy hz=>cases hv;exact⟨b,o,X j,Y j,Z j,rfl,zAR (hc j e hj).1.1,(hc j e hj).1,(hc j e hj).2,hx j e hj,hy j e hj,hz j e hj⟩
def SlStr (w:World) (v:Value) (l:List BA):Prop:=
 ∃p c,v= .slice p l.length c/\l.length<=maxLen/\(l≠ []->l.length<=c/\c<=maxLen)/\∀j s,l[j]? =some s->s.size<=maxLen/\∃b o,p=some ⟨b,o,none⟩/\b<w.heap.size/\w.cell? ⟨b,o+j,none⟩=some (.string s)
theorem SlStr.keep {w w':World} {v:Value} {l:List BA} (h:SlStr w v l) (hb:Below w.heap.size w w'):SlStr w' v l:=by
 obtain⟨p,c,e,hl,hn,hx⟩:=h;refine⟨p,c,e,hl,hn,fun j s hj=>?_⟩;obtain⟨hs,b,o,e2,h1,h2⟩:=hx j s hj;exact⟨hs,b,o,e2,kP h1 hb.size,zA hb h2⟩
def CellsM (w:World) (b o:Nat) (m:Tr.M) (x y:Value):Prop:=
 w.cell? ⟨b,o,none⟩=some (.string m.name)/\w.cell? ⟨b,o+1,none⟩=some x/\w.cell? ⟨b,o+2,none⟩=some y
def SlM (w:World) (v:Value) (l:List Tr.M):Prop:=
 ∃p c,v= .slice p l.length c/\l.length<=maxLen/\(l≠ []->l.length<=c/\c<=maxLen)/\∀j m,l[j]? =some m->m.name.size<=maxLen/\∃b o x y,p=some ⟨b,o,none⟩/\b<w.heap.size/\CellsM w b (o+j*3) m x y/\SlStr w x m.params/\SlS w y m.body
theorem SlM.keep {w w':World} {v:Value} {l:List Tr.M} (h:SlM w v l) (hb:Below w.heap.size w w'):SlM w' v l:=by
 obtain⟨p,c,e,hl,hn,hx⟩:=h;refine⟨p,c,e,hl,hn,fun j s hj=>?_⟩;obtain⟨hs,b,o,x,y,e2,h1,h2,h3,h4⟩:=hx j s hj;exact⟨hs,b,o,x,y,e2,kP h1 hb.size,⟨zA hb h2.1,zA hb h2.2.1,zA hb h2.2.2⟩,h3.keep hb,h4.keep hb⟩
def CellsC (w:World) (b o:Nat) (m:Tr.C) (x y:Value):Prop:=
 w.cell? ⟨b,o,none⟩=some (.string m.name)/\w.cell? ⟨b,o+1,none⟩=some (.bool m.actor)/\w.cell? ⟨b,o+2,none⟩=some x/\w.cell? ⟨b,o+3,none⟩=some y
def SlC (w:World) (v:Value) (l:List Tr.C):Prop:=
 ∃p c,v= .slice p l.length c/\l.length<=maxLen/\(l≠ []->l.length<=c/\c<=maxLen)/\∀j m,l[j]? =some m->m.name.size<=maxLen/\∃b o x y,p=some ⟨b,o,none⟩/\b<w.heap.size/\CellsC w b (o+j*4) m x y/\SlStr w x m.fields/\SlM w y m.methods
theorem SlC.keep {w w':World} {v:Value} {l:List Tr.C} (h:SlC w v l) (hb:Below w.heap.size w w'):SlC w' v l:=by
 obtain⟨p,c,e,hl,hn,hx⟩:=h;refine⟨p,c,e,hl,hn,fun j s hj=>?_⟩;obtain⟨hs,b,o,x,y,e2,h1,h2,h3,h4⟩:=hx j s hj;exact⟨hs,b,o,x,y,e2,kP h1 hb.size,⟨zA hb h2.1,zA hb h2.2.1,zA hb h2.2.2.1,zA hb h2.2.2.2⟩,h3.keep hb,h4.keep hb⟩
end Go.Proofs.YtcnmfcgmnkncaaaGreatDoor
namespace Go.Proofs.YtcnmfcgmnkncaaaGreatDoor
open Go.RowKit
def Inc (w w':World):Prop:=w.heap.size<=w'.heap.size/\∀b o v,w.cell? ⟨b,o,none⟩=some v->w'.cell? ⟨b,o,none⟩=some v
theorem CellsE.inc {w w':World} {b o:Nat} {e:Tr.E} {a:Value} (h:CellsE w b o e a) (hb:Inc w w'):CellsE w' b o e a:=
 ⟨hb.2 _ _ _ h.1,hb.2 _ _ _ h.2.1,hb.2 _ _ _ h.2.2.1,hb.2 _ _ _ h.2.2.2.1,hb.2 _ _ _ h.2.2.2.2.1,hb.2 _ _ _ h.2.2.2.2.2⟩
theorem CellsS.inc {w w':World} {b o:Nat} {e:Tr.S} {x y z:Value} (h:CellsS w b o e x y z) (hb:Inc w w'):CellsS w' b o e x y z:=
 ⟨hb.2 _ _ _ h.1,hb.2 _ _ _ h.2.1,hb.2 _ _ _ h.2.2.1,hb.2 _ _ _ h.2.2.2.1,hb.2 _ _ _ h.2.2.2.2⟩
theorem SlE.inc {w w':World} {v:Value} {l:List Tr.E} (h:SlE w v l) (hb:Inc w w'):SlE w' v l:=by
 induction h with
 |nil p c=>exact .nil p c
 |row b o c l A hn hm hc ha ih=>exact .row b o c l A hn hm (fun j e hj=>⟨(hc j e hj).1.inc hb,(hc j e hj).2⟩) (fun j e hj=>ih j e hj)
theorem SlS.inc {w w':World} {v:Value} {l:List Tr.S} (h:SlS w v l) (hb:Inc w w'):SlS w' v l:=by
 induction h with
 |nil p c=>exact .nil p c
 |row b o c l X Y Z hn hm hc hx hy hz ih1 ih2=>exact .row b o c l X Y Z hn hm (fun j e hj=>⟨(hc j e hj).1.inc hb,(hc j e hj).2⟩) (fun j e hj=>(hx j e hj).inc hb) (fun j e hj=>ih1 j e hj) (fun j e hj=>ih2 j e hj)
theorem SlStr.inc {w w':World} {v:Value} {l:List BA} (h:SlStr w v l) (hb:Inc w w'):SlStr w' v l:=by
 obtain⟨p,c,e,hl,hn,hx⟩:=h;refine⟨p,c,e,hl,hn,fun j s hj=>?_⟩;obtain⟨hs,b,o,e2,h1,h2⟩:=hx j s hj;exact⟨hs,b,o,e2,kP h1 hb.1,hb.2 _ _ _ h2⟩
theorem SlM.inc {w w':World} {v:Value} {l:List Tr.M} (h:SlM w v l) (hb:Inc w w'):SlM w' v l:=by
 obtain⟨p,c,e,hl,hn,hx⟩:=h;refine⟨p,c,e,hl,hn,fun j s hj=>?_⟩;obtain⟨hs,b,o,x,y,e2,h1,h2,h3,h4⟩:=hx j s hj;exact⟨hs,b,o,x,y,e2,kP h1 hb.1,⟨hb.2 _ _ _ h2.1,hb.2 _ _ _ h2.2.1,hb.2 _ _ _ h2.2.2⟩,h3.inc hb,h4.inc hb⟩
theorem SlC.inc {w w':World} {v:Value} {l:List Tr.C} (h:SlC w v l) (hb:Inc w w'):SlC w' v l:=by
 obtain⟨p,c,e,hl,hn,hx⟩:=h;refine⟨p,c,e,hl,hn,fun j s hj=>?_⟩;obtain⟨hs,b,o,x,y,e2,h1,h2,h3,h4⟩:=hx j s hj;exact⟨hs,b,o,x,y,e2,kP h1 hb.1,⟨hb.2 _ _ _ h2.1,hb.2 _ _ _ h2.2.1,hb.2 _ _ _ h2.2.2.1,hb.2 _ _ _ h2.2.2.2⟩,h3.inc hb,h4.inc hb⟩
def hide (S:Nat->Bool) (w:World):World:= { w with heap:=w.heap.mapIdx fun i o=>if S i then .cells #[] 0 (0,0) else o }
theorem zAW (S:Nat->Bool) (w:World):(hide S w).heap.size=w.heap.size:=by simp [hide]
theorem zH7 {S:Nat->Bool} {w:World} {k:Nat} (h:S k=false):(hide S w).heap[k]? =w.heap[k]?:=by
 unfold hide;rw [Array.getElem?_mapIdx,h];cases w.heap[k]? <;>rfl
theorem zBB {S:Nat->Bool} {w:World} {b o:Nat} (h:S b=false):(hide S w).cell? ⟨b,o,none⟩=w.cell? ⟨b,o,none⟩:=by
 unfold World.cell?;rw [zH7 h]
theorem zQ {S:Nat->Bool} {w:World} {b o:Nat} {v:Value} (h:(hide S w).cell? ⟨b,o,none⟩=some v):S b=false/\w.cell? ⟨b,o,none⟩=some v:=by
 cases hs:S b with
 |false=>rw [zBB hs] at h;exact⟨rfl,h⟩
 |true=>
  exfalso;unfold World.cell? at h;have:(hide S w).heap[b]? =(w.heap[b]?).map fun _=> .cells #[] 0 (0,0):=by
   unfold hide;rw [Array.getElem?_mapIdx,hs];cases w.heap[b]? <;>rfl
  simp only [this] at h;cases hb:w.heap[b]? with
  |none=>rw [hb] at h;simp at h
  |some o=>rw [hb] at h;simp at h
theorem zG5 (S:Nat->Bool) (w:World):Inc (hide S w) w:=⟨by rw [zAW];exact kL _,fun _ _ _ h=>(zQ h).2⟩
theorem zLV {S S':Nat->Bool} {w w':World} {row:Option Nat} (hg:w.grownBy w' row) (h1:∀k,row=some k->S k=true) (h2:∀k,k<w.heap.size->S' k=true->S k=true):Inc (hide S w) (hide S' w'):=by
 refine⟨by rw [zAW,zAW];exact hg.size,fun b o v h=>?_⟩;obtain⟨hs,hc⟩:=zQ h;have hlt:=zAR hc;have hs':S' b=false:=by
  cases hb:S' b with
  |false=>rfl
  |true=>rw [h2 b hlt hb] at hs;cases hs
 rw [zBB hs'];have hb:=hg.block b hlt (fun e=>by rw [h1 b e.symm] at hs;cases hs);unfold World.cell? at hc |-;rw [hb];exact hc
theorem zCB {S:Nat->Bool} {w:World} {base:Nat} {e:TypeId} {size n:Nat} {v:Value} {xs:List Value} (h:w.ownsRow base e size v n xs) (hs:∀k,v.ownBlock=some k->S k=false):(hide S w).ownsRow base e size v n xs:=by
 refine⟨h.1,?_⟩;rcases h.2 with hn|⟨g,cap,cur,rfl,hb,hg,rest⟩
 ·exact .inl hn
 ·exact .inr ⟨g,cap,cur,rfl,hb,by rw [zH7 (hs g rfl)];exact hg,rest⟩
def upto (B:Nat) (r:Option Nat):Nat->Bool:=fun k=>decide (k<B)||decide (r=some k)
end Go.Proofs.YtcnmfcgmnkncaaaGreatDoor
namespace Go.Proofs.YtcnmfcgmnkncaaaGreatDoor
namespace Lex
abbrev Bytes:=List UInt8
def letter (c:UInt8):Bool:=decide (97<=c.toNat/\c.toNat<=122\/65<=c.toNat/\c.toNat<=90)
def digit (c:UInt8):Bool:=decide (48<=c.toNat/\c.toNat<=57)
def wordc (c:UInt8):Bool:=letter c||digit c||decide (c.toNat=95)
def tailc (c:UInt8):Bool:=letter c||decide (c.toNat=95)
def space (c:UInt8):Bool:=decide (c.toNat=32\/c.toNat=9\/c.toNat=10\/c.toNat=13)
def skip:Bool->Bytes->Bytes
 |_,[]=> []
 |true,c::r=>if c.toNat=10 then skip false r else skip true r
 |false,c::r=>if space c then skip false r else if c.toNat=35 then skip true r else c::r
structure Tok where
 kind:Nat
 text:Bytes
 val:Nat
 pos:Nat
 deriving DecidableEq,Inhabited
def zAH:List Bytes:= [[97,99,116,111,114],[97,110,100],[97,116],[98,121],[101,108,115,101],[103,101,116],[105,102],[108,101,116],[109,111,118,101],[110,101,119],[110,105,108],[110,111,116],[111,110],[111,114],[112,114,105,110,116],[114,101,99,111,114,100],[114,101,116,117,114,110],[115,101,110,100],[116,104,105,115],[116,111],[118,97,114],[119,97,116,99,104],[119,101,97,107],[119,104,105,108,101]]
def symbols:List Bytes:= [[33,61],[37],[40],[41],[42],[43],[44],[45],[46],[47],[59],[60],[60,61],[61],[61,61],[62],[62,61],[123],[125]]
def value (l:Bytes):Nat:=l.foldl (fun n c=>10*n+(c.toNat -48)) 0
inductive Got where
 |bad (e:Nat)
 |tok (kind:Nat) (text:Bytes) (val:Nat)
 deriving DecidableEq,Inhabited
def nameAt (l:Bytes):Got:=
 let t:=l.takeWhile wordc
 if 31<t.length then .bad 8
 else if zAH.contains t then .tok 4 t 0
 else if (t.headD 0).toNat<=90 then .tok 3 t 0
 else .tok 2 t 0
def numberAt (l:Bytes):Got:=
 let t:=l.takeWhile digit
 if (l.drop t.length).head?.any tailc then .bad 3
 else if 1<t.length/\t.headD 0=48 then .bad 3
 else if 2305843009213693951<value t then .bad 2
 else .tok 1 t (value t)
def symbolAt (l:Bytes):Got:=
 if 2<=l.length/\symbols.contains (l.take 2)=true then .tok 5 (l.take 2) 0
 else if symbols.contains (l.take 1) then .tok 5 (l.take 1) 0
 else .bad 3
def next (l:Bytes):Got:=
 if letter (l.headD 0) then nameAt l else if digit (l.headD 0) then numberAt l else symbolAt l
inductive Res where
 |bad (at_:Nat) (e:Nat)
 |toks (l:List Tok)
 deriving DecidableEq,Inhabited
def scanF (n:Nat):Nat->Bytes->Res
 |_,[]=> .toks [⟨0,[],0,n⟩]
 |0,_ ::_=> .bad 0 0
 |f+1,c::r=>
  match next (c::r) with
  | .bad e=> .bad (n -(c::r).length) e
  | .tok k t v=>
    match scanF n f (skip false ((c::r).drop t.length)) with
    | .bad a e=> .bad a e
    | .toks l=> .toks (⟨k,t,v,n -(c::r).length⟩::l)
def scan (s:Bytes):Res:=
 if 16384<s.length then .bad 0 8 else scanF s.length (s.length) (skip false s)
theorem zBR:∀(b:Bool) (l:Bytes),(skip b l).length<=l.length
 |b,[]=>by cases b<;>simp [skip]
 |true,c::r=>by
  have h1:=zBR false r;have h2:=zBR true r;simp only [skip,kI]
  split<;>omega
 |false,c::r=>by
  have h1:=zBR false r;have h2:=zBR true r;simp only [skip,kI]
  split
  ·omega
  ·split
   ·omega
   ·simp
theorem zD1:∀(b:Bool) (l:Bytes),skip b l=l.drop (l.length -(skip b l).length)
 |b,[]=>by cases b<;>simp [skip]
 |true,c::r=>by
  have h1:=zD1 false r;have h2:=zD1 true r;have l1:=zBR false r;have l2:=zBR true r;simp only [skip,kI]
  split
  ·rw [show r.length+1 -(skip false r).length=(r.length -(skip false r).length)+1 by omega,List.drop_succ_cons];exact h1
  ·rw [show r.length+1 -(skip true r).length=(r.length -(skip true r).length)+1 by omega,List.drop_succ_cons];exact h2
 |false,c::r=>by
  have h1:=zD1 false r;have h2:=zD1 true r;have l1:=zBR false r;have l2:=zBR true r;simp only [skip,kI]
  split
  ·rw [show r.length+1 -(skip false r).length=(r.length -(skip false r).length)+1 by omega,List.drop_succ_cons];exact h1
  ·split
   ·rw [show r.length+1 -(skip true r).length=(r.length -(skip true r).length)+1 by omega,List.drop_succ_cons];exact h2
   ·simp
end Lex
end Go.Proofs.YtcnmfcgmnkncaaaGreatDoor
namespace Go.Proofs.YtcnmfcgmnkncaaaGreatDoor
namespace Tr
def nameL (lo hi:Nat) (l:List UInt8):Bool:=
 decide (l≠ []/\l.length<=31/\lo<=(l.headD 0).toNat/\(l.headD 0).toNat<=hi) && !Lex.zAH.contains l && l.all Lex.wordc
def varL (l:List UInt8):Bool:=nameL 97 122 l
def clsL (l:List UInt8):Bool:=nameL 65 90 l
def varB (s:BA):Bool:=varL s.data.toList
def clsB (s:BA):Bool:=clsL s.data.toList
def okE (k o i:Int) (nm:BA) (a:Bool) (n:Nat):Bool:=
 !(decide (k≠0/\i≠0)||decide (k≠10/\o≠0)||(decide (k≠5) && a)) &&
 (if k=0 then decide (n=0/\nm.size=0/\0<=i/\i<=2305843009213693951)
  else if k=1 then decide (n=0/\nm.size=0)
  else if k=2 then decide (n=0/\nm.size=0)
  else if k=3 then decide (n=0) && varB nm
  else if k=4 then decide (n=1) && varB nm
  else if k=5 then clsB nm && (!a||decide (0<n))
  else if k=6 then decide (n=1/\nm.size=0)
  else if k=7 then decide (n=1/\nm.size=0)
  else if k=8 then decide (n=1/\nm.size=0)
  else if k=9 then decide (n=1/\nm.size=0)
  else if k=10 then decide (n=2/\nm.size=0/\0<=o/\o<=12)
  else false)
mutual
def zE:E->Bool
 | .mk k o i nm a l=>zT l && okE k o i nm a l.length
def zT:List E->Bool
 | []=>true
 |e::r=>zE e && zT r
end
def okS (k:Int) (nm:BA) (n nb ne:Nat):Bool:=
 if k=0 then decide (n=1/\nb=0/\ne=0) && varB nm
 else if k=1 then decide (n=1/\nb=0/\ne=0) && varB nm
 else if k=2 then decide (n=2/\nb=0/\ne=0) && varB nm
 else if k=3 then decide (n=1/\nm.size=0)
 else if k=4 then decide (n=1/\nm.size=0/\ne=0)
 else if k=5 then decide (1<=n/\nb=0/\ne=0) && varB nm
 else if k=6 then decide (n=1/\nm.size=0/\nb=0/\ne=0)
 else if k=7 then decide (n=2/\nm.size=0/\nb=0/\ne=0)
 else if k=8 then decide (n=2/\nb=0/\ne=0) && varB nm
 else if k=9 then decide (n=0/\nm.size=0/\nb=0/\ne=0)
 else false
mutual
def zI:S->Bool
 | .mk k nm x b l=>zT x && okS k nm x.length b.length l.length && zV b && zV l
def zV:List S->Bool
 | []=>true
 |s::r=>zI s && zV r
end
def validM (m:M):Bool:=varB m.name && m.params.all varB && zV m.body
def validC (c:C):Bool:=clsB c.name && c.fields.all varB && (c.actor||decide (c.methods.length=0)) && c.methods.all validM
def validP (l:List C):Bool:=l.all validC
theorem zCN:∀l:List E,zT l=l.all zE
 | []=>rfl
 |e::r=>by rw [zT,zCN r];rfl
theorem zCM:∀l:List S,zV l=l.all zI
 | []=>rfl
 |e::r=>by rw [zV,zCM r];rfl
mutual
def leftE:E->Int->Int
 | .mk _ _ _ nm _ l,n=>if 40<nm.size then -1 else zAD l (n -1)
def zAD:List E->Int->Int
 | [],n=>n
 |e::r,n=>if n<0 then n else zAD r (leftE e n)
end
mutual
def leftS:S->Int->Int
 | .mk _ nm x b l,n=>if 40<nm.size then -1 else
   let n1:=zAD x (n -1)
   let n2:=if 0<=n1 then zY b n1 else n1
   if 0<=n2 then zY l n2 else n2
def zY:List S->Int->Int
 | [],n=>n
 |s::r,n=>if n<0 then n else zY r (leftS s n)
end
def zA4 (l:List BA) (n:Int):Int:=if l.any (fun s=>decide (40<s.size)) then -1 else n -l.length
def leftM (m:M) (n:Int):Int:=if 40<m.name.size then -1 else
 let n1:=zA4 m.params (n -1)
 if 0<=n1 then zY m.body n1 else n1
def zAV:List M->Int->Int
 | [],n=>n
 |m::r,n=>if n<0 then n else zAV r (leftM m n)
def leftC (c:C) (n:Int):Int:=if 40<c.name.size then -1 else zAV c.methods (zA4 c.fields (n -1))
def leftCs:List C->Int->Int
 | [],n=>n
 |c::r,n=>if n<0 then n else leftCs r (leftC c n)
def fewP (l:List C) (n:Int):Bool:=decide (0<=leftCs l n)
end Tr
end Go.Proofs.YtcnmfcgmnkncaaaGreatDoor
namespace Go.Proofs.YtcnmfcgmnkncaaaGreatDoor
open Go.RowKit
def zK (e:Tr.E) (a:Value):Value:= .agg #[.int .i64 e.kind,.int .i64 e.op,.int .i64 e.int,.string e.name,.bool e.at_,a]
theorem zJ (w:World) (cs:Array Value) (t:TypeId) (i:Nat) (u:Value) (h:cs[i]? =some u):(w.alloc (.cells cs t)).cell? ⟨w.heap.size,i,none⟩=some u:=by
 unfold World.cell? World.alloc;simp
 simpa using h
theorem zD (w:World) (o:Obj):Below w.heap.size w (w.alloc o):=(Below.refl _ _).alloc (kL _) o
theorem zC {wb w w':World} (h:Below wb.heap.size wb w) (h2:Below w.heap.size w w'):Below wb.heap.size wb w':=h.trans (h2.mono h.size)
namespace Tr
theorem E.deep_pos (e:E):1<=e.deep:=by cases e;unfold E.deep;omega
theorem zEE {n:Int} (h:n<0):∀l,zAD l n=n
 | []=>rfl
 |e::r=>by rw [zAD,kD h]
theorem zE1 {n:Int} (h:0<=n) (e:E) (r:List E):zAD (e::r) n=zAD r (leftE e n):=by rw [zAD,kC (by omega)]
mutual
theorem zKC:∀(e:E) (n:Int),0<=n-> -1<=leftE e n/\leftE e n<=n
 | .mk k o i nm a l,n,h=>by
   rw [leftE]
   split
   ·omega
   ·have:=zDB l (n -1) (by omega);omega
theorem zDB:∀(l:List E) (n:Int),-1<=n-> -1<=zAD l n/\zAD l n<=n
 | [],n,h=>by rw [zAD];omega
 |e::r,n,h=>by
  by_cases hn:n<0
  ·rw [zEE hn];omega
  ·rw [zE1 (by omega)];have h1:=zKC e n (by omega);have h2:=zDB r (leftE e n) h1.1;omega
end
end Tr
theorem zLQ:∀(d:Nat) (e:Tr.E) (a:Value) (n:Int) (w:World),e.deep<=d->BdE e->SlE w a e.args->0<=n->n<=1000000->
 Calls prog 39 #[zK e a,.int .i64 n] w fun r w'=>r= .returned (.int .i64 (Tr.leftE e n))/\Below w.heap.size w w':=by
 intro d
 induction d with
 |zero=>intro e a n w hd;have:=e.deep_pos;omega
 |succ d ih=>
  intro e a n w hd hB hS h0 hn;obtain⟨k,o,i,nm,at_,l⟩:=e;have hsz:nm.size<=maxLen:=hB.name;have hS':SlE w a l:=hS;obtain⟨p,c,rfl,_⟩:=hS'.form;have hll:=hS'.len;unfold maxLen at hsz hll;obtain⟨N,hN⟩:∃N,l.length=N:=⟨_,rfl⟩;rw [hN] at hS' hll |-;have HS:=zh (hS'.keep (zD w (.cells #[.int .i64 k,.int .i64 o,.int .i64 i,.string nm,.bool at_,.slice p N c] 37)));have HN:=zh hN;have HD:=zh hd;have HIH:=zh ih;have HB:=zh (zD w (.cells #[.int .i64 k,.int .i64 o,.int .i64 i,.string nm,.bool at_,.slice p N c] 37));have b5:=zJ w #[.int .i64 k,.int .i64 o,.int .i64 i,.string nm,.bool at_,.slice p N c] 37 5 _ rfl;unfold zK;simp only [Tr.E.kind,Tr.E.op,Tr.E.int,Tr.E.name,Tr.E.at_];clear hS hS' hB hN hd ih;by_cases h40:40<nm.size
  ·go_in;go_wp2;go_ret;exact⟨by rw [Tr.leftE,kD h40];rfl,HB⟩
  ·obtain⟨w1,hw1⟩:∃w1,w1=w.alloc (.cells #[.int .i64 k,.int .i64 o,.int .i64 i,.string nm,.bool at_,.slice p N c] 37):=⟨_,rfl⟩;rw [<-hw1] at HS HB b5;go_in;go_wp2;rw [<-hw1];clear hw1
   go_loopw [1,5] (fun s1 s5 wr=>∃(j:Nat) (m:Int),s5= .int .i64 j/\j<=N/\s1= .int .i64 m/\ -1<=m/\m<=1000000/\Tr.zAD (l.drop j) m=Tr.zAD l (n -1)/\Below w1.heap.size w1 wr) (fun _ s5 _=>N -(intOf s5).toNat)
   case atStart=>exact ⟨0,n -1,rfl,kO _,rfl,by omega,by omega,rfl,Below.refl _ _⟩
   case round=>
    obtain⟨j,m,rfl,hj,rfl,hm0,hm1,heq,hbr⟩:=hrel;have HEQ:=zh heq;have HBR:=zh hbr;have c5:=zA hbr b5;by_cases hlt:j<N
    ·by_cases hm:0<=m
     ·obtain⟨x,hx⟩:∃x,l[j]? =some x:=⟨_,kB (by rw [HN.out];exact hlt)⟩;obtain⟨b,oo,aa,rfl,hblt,hc,hbd,hsl⟩:=(HS.keep hbr).get hx;obtain⟨x0,x1,x2,x3,x4,x5⟩:=hc;have hcall:=HIH x aa m wr (Tr.E.deep_args HD (e:= .mk k o i nm at_ l) hx) hbd hsl hm hm1;unfold zK at hcall;have hbd2:=Tr.zKC x m hm;have hdrop:l.drop j=x::l.drop (j+1):=by rw [List.drop_eq_getElem_cons (by rw [HN.out];exact hlt)];congr 1;rw [kB (by rw [HN.out];exact hlt)] at hx;exact Option.some.inj hx
      rw [hdrop,Tr.zE1 hm] at heq;have HEQ2:=zh heq;have HC:=zh hcall;obtain⟨r,hr⟩:∃r,Tr.leftE x m=r:=⟨_,rfl⟩;rw [hr] at hbd2 HEQ2 HC;clear heq hbr hcall hdrop hx hsl hbd hr HEQ;go_wp2_with fail;refine HC.mono ?_;rintro e w2 ⟨rfl,hb2⟩;go_wp2_with fail;go_roundw
      case rel=>exact ⟨j+1,r,by go_num,by omega,rfl,by omega,by omega,HEQ2,zC HBR hb2⟩
      case measure=>simp [intOf];omega
     ·have hres:Tr.zAD l (n -1)=m:=by rw [<-heq,Tr.zEE (by omega)]
      have HR:=zh hres;clear heq hbr hres;go_wp2;go_ret;exact⟨by rw [Tr.leftE,kC h40,HR.out];rfl,HB.trans (HBR.mono HB.size)⟩
    ·have hres:Tr.zAD l (n -1)=m:=by
      rw [<-heq,List.drop_eq_nil_of_le (by rw [HN.out];omega),Tr.zAD]
     have HR:=zh hres;clear heq hbr hres;go_wp2;go_ret;exact⟨by rw [Tr.leftE,kC h40,HR.out];rfl,HB.trans (HBR.mono HB.size)⟩
namespace Tr
theorem zCL {n:Int} (h:n<0):∀l,zY l n=n
 | []=>rfl
 |e::r=>by rw [zY,kD h]
theorem zHY {n:Int} (h:0<=n) (e:S) (r:List S):zY (e::r) n=zY r (leftS e n):=by rw [zY,kC (by omega)]
mutual
theorem zNW:∀(e:S) (n:Int),0<=n-> -1<=leftS e n/\leftS e n<=n
 | .mk k nm x b l,n,h=>by
   rw [leftS]
   split
   ·omega
   ·have h1:=zDB x (n -1) (by omega);simp only [];by_cases c1:0<=zAD x (n -1)
    ·rw [kD c1];have h2:=zB4 b (zAD x (n -1)) h1.1;by_cases c2:0<=zY b (zAD x (n -1))
     ·rw [kD c2];have h3:=zB4 l _ h2.1;omega
     ·rw [kC c2];omega
    ·rw [kC c1,kC c1];omega
theorem zB4:∀(l:List S) (n:Int),-1<=n-> -1<=zY l n/\zY l n<=n
 | [],n,h=>by rw [zY];omega
 |e::r,n,h=>by
  by_cases hn:n<0
  ·rw [zCL hn];omega
  ·rw [zHY (by omega)];have h1:=zNW e n (by omega);have h2:=zB4 r (leftS e n) h1.1;omega
end
theorem zO6 {s:S} {n:Int} (h:40<s.name.size):leftS s n= -1:=by
 cases s with
 |mk k nm x b l=>rw [leftS];exact kD h
theorem zG4 {s:S} {n m2 m3 m4:Int} (h:¬40<s.name.size) (h2:zAD s.exprs (n -1)=m2) (h3:(if 0<=m2 then zY s.body m2 else m2)=m3) (h4:(if 0<=m3 then zY s.els m3 else m3)=m4):leftS s n=m4:=by
 cases s with
 |mk k nm x b l=>
  have h':¬40<nm.size:=h;rw [leftS,kC h'];subst h2;subst h3;exact h4
theorem S.deep_pos (e:S):1<=e.deep:=by cases e;unfold S.deep;omega
theorem S.deep_in {l:List S} {d j:Nat} {x:S} (h:S.deep.deeps l<=d) (hj:l[j]? =some x):1<=d/\S.deep.deeps x.body<=d -1/\S.deep.deeps x.els<=d -1:=by
 have h1:=S.deeps_get l j x hj;have h2:=x.deep_pos;obtain⟨m,hm⟩:∃m,d=m+1:=⟨d -1,by omega⟩;subst hm;exact⟨by omega,S.deep_body (by omega),S.deep_els (by omega)⟩
theorem zG9 {α:Type} {l:List α} {j:Nat} {x:α} (h:l[j]? =some x):l.drop j=x::l.drop (j+1):=by
 obtain⟨hlt,rfl⟩:=kJ.1 h;exact List.drop_eq_getElem_cons hlt
end Tr
theorem zK3 (v:Value) (l:List BA) (n:Int) (w:World) (h:SlStr w v l) (h0: -1<=n) (hn:n<=1000000):
 Calls prog 31 #[v,.int .i64 n] w fun r w'=>r= .returned (.int .i64 (Tr.zA4 l n))/\w=w':=by
 obtain⟨p,c,rfl,hl,_,hx⟩:=h;have HX:=zh hx;unfold maxLen at hl;obtain⟨N,hN⟩:∃N,l.length=N:=⟨_,rfl⟩;rw [hN] at hl |-;have HN:=zh hN;clear hx hN;go_in;go_wp2
 go_loop [5] (fun s5=>∃j:Nat,s5= .int .i64 j/\j<=N/\∀t s,t<j->l[t]? =some s->s.size<=40) (fun s5=>N -(intOf s5).toNat)
 case atStart=>exact ⟨0,rfl,kO _,fun t s ht=>by omega⟩
 case round=>
  obtain⟨j,rfl,hj,hall⟩:=hrel;have HA:=zh hall;clear hall;by_cases hlt:j<N
  ·obtain⟨x,hx⟩:∃x,l[j]? =some x:=⟨_,kB (by rw [HN.out];exact hlt)⟩;obtain⟨hsz,b,o,rfl,hb,hc⟩:=HX j x hx;have HXJ:=zh hx;unfold maxLen at hsz;clear hx;by_cases h40:40<x.size
   ·go_wp2;go_ret;refine⟨?_,rfl⟩;have:(l.any fun s=>decide (40<s.size))=true:=List.any_eq_true.2 ⟨x,kM HXJ,kS h40⟩;rw [Tr.zA4,kD this];rfl
   ·go_wp2;go_round
    case rel=>
     refine⟨j+1,by go_num,by omega,fun t s ht hts=>?_⟩;by_cases e:t=j
     ·subst e;rw [HXJ.out] at hts;cases hts;omega
     ·exact HA t s (by omega) hts
    case measure=>simp [intOf];omega
  ·obtain rfl:j=N:=by omega
   go_wp2;go_ret;refine⟨?_,rfl⟩;have:(l.any fun s=>decide (40<s.size))=false:=by
    rw [Bool.eq_false_iff];intro h;obtain⟨s,hs,h2⟩:=List.any_eq_true.1 h;obtain⟨t,ht,e⟩:=List.mem_iff_getElem.1 hs;have:=HA t s (by rw [<-HN.out];exact ht) (by rw [kB ht,e]);simp at h2;omega
   rw [Tr.zA4,kC (by rw [this];simp),HN.out];rfl
theorem zKB:∀(d:Nat) (l:List Tr.S) (v:Value) (n:Int) (w:World),Tr.S.deep.deeps l<=d->SlS w v l->0<=n->n<=1000000->
 Calls prog 32 #[v,.int .i64 n] w fun r w'=>r= .returned (.int .i64 (Tr.zY l n))/\Below w.heap.size w w':=by
 intro d
 induction d using Nat.strongRecOn with
 |ind d ih=>
  intro l v n w hd hS h0 hn;obtain⟨p,c,rfl,_⟩:=hS.form;have hll:=hS.len;unfold maxLen at hll;obtain⟨N,hN⟩:∃N,l.length=N:=⟨_,rfl⟩;rw [hN] at hS hll |-;have HS:=zh hS;have HN:=zh hN;have HD:=zh hd;have HIH:=zh ih;clear hS hN hd ih;go_in;go_wp2
  go_loopw [1,5] (fun s1 s5 wr=>∃(j:Nat) (m:Int),s5= .int .i64 j/\j<=N/\s1= .int .i64 m/\ -1<=m/\m<=1000000/\Tr.zY (l.drop j) m=Tr.zY l n/\Below w.heap.size w wr) (fun _ s5 _=>N -(intOf s5).toNat)
  case atStart=>exact ⟨0,n,rfl,kO _,rfl,by omega,by omega,rfl,Below.refl _ _⟩
  case round=>
   obtain⟨j,m,rfl,hj,rfl,hm0,hm1,heq,hbr⟩:=hrel;obtain⟨wo,rfl⟩:∃wo:World,wo=wr:=⟨_,rfl⟩;have HEQ:=zh heq;have HBR:=zh hbr;by_cases hlt:j<N
   ·by_cases hm:0<=m
    ·obtain⟨x,hx⟩:∃x,l[j]? =some x:=⟨_,kB (by rw [HN.out];exact hlt)⟩;obtain⟨b,oo,vx,vy,vz,rfl,hblt,hc,hbd,hsx,hsy,hsz⟩:=(HS.keep hbr).get hx;obtain⟨x0,x1,x2,x3,x4⟩:=hc;have hnm:=hbd.name;unfold maxLen at hnm;rw [Tr.zG9 hx,Tr.zHY hm] at heq;have HEQ2:=zh heq;have HX:=zh hx;clear heq hbr hx HEQ;by_cases h40:40<x.name.size
     ·have hres:Tr.zY l n= -1:=by rw [<-HEQ2.out,Tr.zO6 h40,Tr.zCL (by omega)]
      have HR:=zh hres;clear hres;go_wp2;go_ret;exact⟨by rw [HR.out];rfl,HBR⟩
     ·obtain⟨px,cx,rfl,_⟩:=hsx.form;have hxl:=hsx.len;unfold maxLen at hxl;obtain⟨X,hX⟩:∃X,x.exprs.length=X:=⟨_,rfl⟩;rw [hX] at hsx hxl x2;have HSX:=zh hsx;have HSY:=zh hsy;have HSZ:=zh hsz;have HX0:=zh hX;clear hsx hsy hsz hX;go_wp2
      go_loopw [1,6] (fun s1 s6 wr=>∃(k:Nat) (m2:Int),s6= .int .i64 k/\k<=X/\s1= .int .i64 m2/\ -1<=m2/\m2<=1000000/\Tr.zAD (x.exprs.drop k) m2=Tr.zAD x.exprs (m -1)/\Below wo.heap.size wo wr) (fun _ s6 _=>X -(intOf s6).toNat)
      case atStart=>exact ⟨0,m -1,rfl,kO _,rfl,by omega,by omega,rfl,Below.refl _ _⟩
      case round=>
       obtain⟨k,m2,rfl,hk,rfl,hm20,hm21,heq,hbr⟩:=hrel;have HE:=zh heq;have HBW:=zh hbr;have e2:=zA hbr x2;by_cases hgo:k<X/\0<=m2
       ·obtain⟨hk1,hk2⟩:=hgo;obtain⟨y,hy⟩:∃y,x.exprs[k]? =some y:=⟨_,kB (by rw [HX0.out];exact hk1)⟩;obtain⟨b2,o2,aa,rfl,_,hc2,hbd2,hsl2⟩:=(HSX.keep hbr).get hy;obtain⟨y0,y1,y2,y3,y4,y5⟩:=hc2;have hcall:=zLQ _ y aa m2 wr (kL _) hbd2 hsl2 hk2 hm21;unfold zK at hcall;have hb2:=Tr.zKC y m2 hk2;rw [Tr.zG9 hy,Tr.zE1 hk2] at heq;have HE2:=zh heq;have HC:=zh hcall;obtain⟨r,hr⟩:∃r,Tr.leftE y m2=r:=⟨_,rfl⟩;rw [hr] at hb2 HE2 HC;clear heq hbr hcall hy hsl2 hbd2 hr HE x0 x1 x2 x3 x4;go_wp2_with fail;refine HC.mono ?_;rintro e w2 ⟨rfl,hb2'⟩;go_wp2_with fail;go_roundw
        case rel=>exact ⟨k+1,r,by go_num,by omega,rfl,by omega,by omega,HE2,zC HBW hb2'⟩
        case measure=>simp [intOf];omega
       ·have hm2e:Tr.zAD x.exprs (m -1)=m2:=by
         by_cases hk1:k<X
         ·rw [<-heq,Tr.zEE (by omega)]
         ·rw [<-heq,List.drop_eq_nil_of_le (by rw [HX0.out];omega),Tr.zAD]
        have HM2:=zh hm2e;have e3:=zA hbr x3;have e4:=zA hbr x4;have hgo':X<=k\/(k<X/\m2<0):=(by omega);have hdd:=Tr.S.deep_in HD HX;have HDD:=zh hdd;clear heq hbr hm2e hgo x0 x1 x2 x3 x4 hdd;rcases hgo' with hg|⟨hg1,hg2⟩
        ·by_cases c2:0<=m2
         ·have hcall:=HIH (d -1) (by have:=HDD.1;omega) x.body vy m2 wr HDD.2.1 (HSY.keep HBW) c2 hm21;have hb3:=Tr.zB4 x.body m2 (by omega);have HC:=zh hcall;obtain⟨m3,hr⟩:∃r,Tr.zY x.body m2=r:=⟨_,rfl⟩;rw [hr] at hb3 HC;have HM3:=zh (show(if 0<=m2 then Tr.zY x.body m2 else m2)=m3 by rw [kD c2,hr]);clear hr hcall;go_wp2_with fail;refine HC.mono ?_;rintro e w3 ⟨rfl,hb3'⟩;have HB3:=zh (zC HBW hb3');have f4:=zA hb3' e4;clear hb3';by_cases c3:0<=m3
          ·have hcall:=HIH (d -1) (by have:=HDD.1;omega) x.els vz m3 w3 HDD.2.2 (HSZ.keep HB3) c3 (by omega);have hb4:=Tr.zB4 x.els m3 (by omega);have HC4:=zh hcall;obtain⟨m4,hr⟩:∃r,Tr.zY x.els m3=r:=⟨_,rfl⟩;rw [hr] at hb4 HC4;have HM4:=zh (show(if 0<=m3 then Tr.zY x.els m3 else m3)=m4 by rw [kD c3,hr]);clear hr hcall;go_wp2_with fail;refine HC4.mono ?_;rintro e w4 ⟨rfl,hb4'⟩;go_wp2_with fail;go_roundw
           case rel=>exact ⟨j+1,m4,by go_num,by omega,rfl,by omega,by omega,by rw [<-HEQ2.out,Tr.zG4 h40 HM2.out HM3.out HM4.out],HBR.trans ((zC HB3 hb4').mono HBR.size)⟩
           case measure=>simp [intOf];omega
          ·have HM4:=zh (show(if 0<=m3 then Tr.zY x.els m3 else m3)=m3 by rw [kC c3]);go_wp2_with fail;go_roundw
           case rel=>exact ⟨j+1,m3,by go_num,by omega,rfl,by omega,by omega,by rw [<-HEQ2.out,Tr.zG4 h40 HM2.out HM3.out HM4.out],HBR.trans (HB3.mono HBR.size)⟩
           case measure=>simp [intOf];omega
         ·have HM3:=zh (show(if 0<=m2 then Tr.zY x.body m2 else m2)=m2 by rw [kC c2]);have HM4:=zh (show(if 0<=m2 then Tr.zY x.els m2 else m2)=m2 by rw [kC c2]);go_wp2_with fail;go_roundw
          case rel=>exact ⟨j+1,m2,by go_num,by omega,rfl,by omega,by omega,by rw [<-HEQ2.out,Tr.zG4 h40 HM2.out HM3.out HM4.out],HBR.trans (HBW.mono HBR.size)⟩
          case measure=>simp [intOf];omega
        ·have HM3:=zh (show(if 0<=m2 then Tr.zY x.body m2 else m2)=m2 by rw [kC (by omega)]);have HM4:=zh (show(if 0<=m2 then Tr.zY x.els m2 else m2)=m2 by rw [kC (by omega)]);go_wp2_with fail;go_roundw
         case rel=>exact ⟨j+1,m2,by go_num,by omega,rfl,by omega,by omega,by rw [<-HEQ2.out,Tr.zG4 h40 HM2.out HM3.out HM4.out],HBR.trans (HBW.mono HBR.size)⟩
         case measure=>simp [intOf];omega
    ·have hres:Tr.zY l n=m:=by rw [<-heq,Tr.zCL (by omega)]
     have HR:=zh hres;clear heq hbr hres;go_wp2;go_ret;exact⟨by rw [HR.out];rfl,HBR⟩
   ·have hres:Tr.zY l n=m:=by rw [<-heq,List.drop_eq_nil_of_le (by rw [HN.out];omega),Tr.zY]
    have HR:=zh hres;clear heq hbr hres;go_wp2;go_ret;exact⟨by rw [HR.out];rfl,HBR⟩
end Go.Proofs.YtcnmfcgmnkncaaaGreatDoor
