/-
  What stands in memory while the checker collects faults: the rows, a place, the blocks that are kept; appending an owned row that may be nil.
-/
import Derived.Test.YtcnmfcgmnkncaaaGreatDoorX19
namespace Go.Proofs.YtcnmfcgmnkncaaaGreatDoor
open Go.RowKit Go.Maps
theorem zB8 {w:World} {g:Nat} {cur:Array Value} {t:TypeId} {r:Nat × Nat} (h:w.heap[g]? =some (.cells cur t r)) {j:Nat} {u:Value} (hu:cur[j]? =some u):w.cell? ⟨g,j,none⟩=some u:=by
 simp only [World.cell?,h]
 simpa using hu
theorem zBM {P:Program} (w:World) {ops:Array Oper} {rest:List Oper} {o:Oper} {a:Act} {Q:Exit->Act->World->Prop} (hgd:o.guard=none) (s x:Operand) (t:TypeId)
 (ho:o.op= .call { callee:= .builtin .append,args:= #[s,x],argTypes:= #[t,t] })
 (base:Nat) (e:TypeId) (i:TypeInfo) (z:Value) (size bytes:Nat) (ht:P.underlying t=some (.slice e)) (hi:P.info? e=some i) (hz:i.zero=some z)
 (hsize:i.size=size) (hby:i.bytes=bytes) (hzs:z.cells.size=size) (hsz:0<size)
 (v:Value) (n:Nat) (xs:List Value) (hs:a.eval s=v) (hown:w.ownsRow base e size v n xs)
 (u:Value) (base2 m:Nat) (news:List Value) (hx:a.eval x=u) (hu:w.ownsRow base2 e size u m news) (h1:∀y∈news,y.oneCell'=true)
 (h63:n+m<=maxLen) (hbytes:(n+m)*bytes<=140737488355328) (hbase:base<=w.heap.size)
 (h:∀v' w',w'.ownsRow base e size v' (n+m) (xs++news)->w.grownBy w' v.ownBlock->wpList P ops Q rest (a.put o.dst v') w'):wpList P ops Q (o::rest) a w:=by
 obtain⟨hl,hu2⟩:=hu;rcases hu2 with ⟨rfl,rfl⟩|⟨g,cap,cur,rfl,_,hg,hmc,_,hcs,htk⟩
 ·have hnil:news= []:=List.eq_nil_of_length_eq_zero (by omega);subst hnil;refine wpList_append_own_none hgd s x t ho base e i size ht hi v n xs hs hown hx ?_;refine h v w ?_ (grown_refl _ _);rw [List.append_nil,Nat.add_zero];exact hown
 ·refine wpList_append_own w hgd s x t ho base e i z size bytes ht hi hz hsize hby hzs hsz v n xs hs hown ⟨g,0,none⟩ m cap news hx hl (fun j y hj=>?_) h1 h63 hbytes hbase (fun v' w' a1 a2 _=>h v' w' a1 a2);have hlt:j<m*size:=by have:=(kJ.1 hj).1;omega
  rw [<-htk,List.getElem?_take_of_lt hlt] at hj;have:cur[j]? =some y:=by rw [<-Array.getElem?_toList];exact hj
  have hc:=zB8 hg this;have e0:(⟨g,0,none⟩:Addr).add j=⟨g,j,none⟩:=by unfold Addr.add;simp;intro h;exact h.symm
  rw [e0];exact hc
def GoodBlk (o:Obj):Prop:=(∀cs r,o≠ .cells cs 99 r)/\(∀cs r,o≠ .cells cs 144 r)/\(∀es k,o≠ .map es k)
theorem zRF (cs:Array Value) (t:TypeId) (r:Nat × Nat) (h1:t≠99) (h2:t≠144):GoodBlk (.cells cs t r):=
 ⟨fun cs' r' h=>by cases h;exact h1 rfl,fun cs' r' h=>by cases h;exact h2 rfl,fun es k h=>by cases h⟩
def zA7 (l:List (BA × Nat)):List Value:=l.flatMap fun x=> [Value.string x.1,.int .i64 (x.2:Int)]
theorem zLA (l r:List (BA × Nat)):zA7 (l++r)=zA7 l++zA7 r:=by unfold zA7;rw [List.flatMap_append]
theorem zGL (nm:BA) (ts:List Nat):zA7 (ts.map fun t=>(nm,t))=faultRow nm ts:=by
 unfold zA7 faultRow;rw [List.flatMap_map]
theorem zGR (nm:BA) (ts:List Nat):∀y∈faultRow nm ts,y.oneCell'=true:=by
 intro y hy;unfold faultRow at hy;rw [List.mem_flatMap] at hy;obtain⟨t,_,hy⟩:=hy;simp only [kV,List.not_mem_nil,or_false] at hy;rcases hy with rfl|rfl<;>rfl
structure FSt (w:World) (L:List (Nat × Obj)) (P:Nat) (cv:Value) (c:Tr.C) (fv mv:Value) (f:Nat->Bool) (out:Value) (rows:List (BA × Nat)) (W:World):Prop where
 place:PlaceAt W P cv c fv mv f
 own:W.ownsRow w.heap.size 99 2 out rows.length (zA7 rows)
 below:Below w.heap.size w W
 kept:∀x∈L,W.heap[x.1]? =some x.2/\GoodBlk x.2
 hP:w.heap.size<=P
structure FS0 (w:World) (L:List (Nat × Obj)) (out:Value) (rows:List (BA × Nat)) (W:World):Prop where
 own:W.ownsRow w.heap.size 99 2 out rows.length (zA7 rows)
 below:Below w.heap.size w W
 kept:∀x∈L,W.heap[x.1]? =some x.2/\GoodBlk x.2
section
variable {w:World} {L:List (Nat × Obj)} {P:Nat} {cv:Value} {c:Tr.C} {fv mv:Value} {f:Nat->Bool} {out:Value} {rows:List (BA × Nat)} {W W':World}
theorem FSt.drop (h:FSt w L P cv c fv mv f out rows W):FS0 w L out rows W:=⟨h.own,h.below,h.kept⟩
theorem FS0.keep (h:FS0 w L out rows W) (hb:Below W.heap.size W W'):FS0 w L out rows W':=
 ⟨zCD h.own hb,zC h.below hb,fun x hx=>⟨(hb.block x.1 (lt_of_block (h.kept x hx).1)).trans (h.kept x hx).1,(h.kept x hx).2⟩⟩
theorem FS0.add (h:FS0 w L out rows W) {b:Nat} {o:Obj} (hb:W.heap[b]? =some o) (hg:GoodBlk o):FS0 w ((b,o)::L) out rows W:=
 ⟨h.own,h.below,fun x hx=>by rcases kV.1 hx with rfl|hx;exact⟨hb,hg⟩;exact h.kept x hx⟩
theorem FS0.less {K:List (Nat × Obj)} (h:FS0 w L out rows W) (hK:∀x∈K,x∈L):FS0 w K out rows W:=⟨h.own,h.below,fun x hx=>h.kept x (hK x hx)⟩
theorem FS0.box (h:FS0 w L out rows W) (cs:Array Value) (t:TypeId) (h1:t≠99) (h2:t≠144):FS0 w ((W.heap.size,.cells cs t)::L) out rows (W.alloc (.cells cs t)):=
 (h.keep (zD _ _)).add (MapKept.heap_alloc W _).1 (zRF _ _ _ h1 h2)
theorem FS0.put (h:FS0 w L out rows W) (cv:Value) (c:Tr.C) (fv mv:Value) (f:Nat->Bool):FSt w L W.heap.size cv c fv mv f out rows (W.alloc (.cells (placeCells cv c fv mv f) 144)):=by
 have h2:=h.keep (zD W (.cells (placeCells cv c fv mv f) 144));exact⟨PlaceAt.made W cv c fv mv f,h2.own,h2.below,h2.kept,h.below.size⟩
theorem FSt.keep (h:FSt w L P cv c fv mv f out rows W) (hb:Below W.heap.size W W'):FSt w L P cv c fv mv f out rows W':=by
 have h2:=h.drop.keep hb;exact⟨h.place.keep hb,h2.own,h2.below,h2.kept,h.hP⟩
theorem FSt.cell (h:FSt w L P cv c fv mv f out rows W) {b j:Nat} {cs:Array Value} {t:TypeId} {u:Value} (hb:(b,Obj.cells cs t)∈L) (hu:cs[j]? =some u):W.cell? ⟨b,j,none⟩=some u:=
 zB8 (h.kept _ hb).1 hu
theorem FS0.cell (h:FS0 w L out rows W) {b j:Nat} {cs:Array Value} {t:TypeId} {u:Value} (hb:(b,Obj.cells cs t)∈L) (hu:cs[j]? =some u):W.cell? ⟨b,j,none⟩=some u:=
 zB8 (h.kept _ hb).1 hu
theorem zTK {b:Nat} {o:Obj} (hp:PlaceAt W P cv c fv mv f) (hb:W.heap[b]? =some o) (hg:GoodBlk o):b≠P:=by
 rintro rfl;unfold PlaceAt at hp;rw [hp] at hb;injection hb with hb
 exact hg.2.1 _ _ hb.symm
theorem own_ne {b base n size:Nat} {xs:List Value} {v:Value} {o:Obj} (ho:W.ownsRow base 99 size v n xs) (hb:W.heap[b]? =some o) (hg:GoodBlk o):v.ownBlock≠some b:=by
 intro e;rcases ho.2 with ⟨rfl,_⟩|⟨g,cap,cur,rfl,_,hh,_⟩
 ·cases e
 ·simp only [Value.ownBlock,Option.some.injEq] at e;subst e;rw [hh] at hb;injection hb with hb
  exact hg.1 _ _ hb.symm
theorem zGN {base n size:Nat} {xs:List Value} {v:Value} (ho:W.ownsRow base 99 size v n xs) (hp:PlaceAt W P cv c fv mv f):v.ownBlock≠some P:=by
 intro e;rcases ho.2 with ⟨rfl,_⟩|⟨g,cap,cur,rfl,_,hh,_⟩
 ·cases e
 ·simp only [Value.ownBlock,Option.some.injEq] at e;subst e;unfold PlaceAt at hp;rw [hh] at hp;injection hp with hp
  injection hp with _ hp _
  exact absurd hp (by decide)
theorem FSt.next (h:FSt w L P cv c fv mv f out rows W) {g:Nat->Bool} (hp:PlaceAt W' P cv c fv mv g) (hg:W.grownBy W' (some P)):FSt w L P cv c fv mv g out rows W':=by
 refine⟨hp,h.own.kept hg ?_,h.below.grown hg h.below.size (fun q hq=>by cases hq;exact h.hP),fun x hx=>?_,h.hP⟩
 ·exact .inr (zGN h.own h.place)
 ·obtain⟨h1,h2⟩:=h.kept x hx;exact⟨(hg.block x.1 (lt_of_block h1) (by simpa using zTK h.place h1 h2)).trans h1,h2⟩
theorem FSt.app (h:FSt w L P cv c fv mv f out rows W) {v':Value} {more:List (BA × Nat)} {m:Nat} (hm:more.length=m) (ho:W'.ownsRow w.heap.size 99 2 v' (rows.length+m) (zA7 rows++zA7 more)) (hg:W.grownBy W' out.ownBlock):
 FSt w L P cv c fv mv f v' (rows++more) W':=by
 refine⟨h.place.grown hg (fun e=>zGN h.own h.place e.symm),?_,h.below.grown hg h.below.size (fun q hq=>(h.own.lt q hq).1),fun x hx=>?_,h.hP⟩
 ·rw [kN,hm,zLA];exact ho
 ·obtain⟨h1,h2⟩:=h.kept x hx;exact⟨(hg.block x.1 (lt_of_block h1) (fun e=>own_ne h.own h1 h2 e.symm)).trans h1,h2⟩
theorem FSt.congr (h:FSt w L P cv c fv mv f out rows W) {g:Nat->Bool} (he:∀t,f t=g t):FSt w L P cv c fv mv g out rows W:=⟨h.place.congr he,h.own,h.below,h.kept,h.hP⟩
theorem FSt.map (h:FSt w L P cv c fv mv f out rows W) {V n:Nat} {l:List BA} (hV:w.heap.size<=V) (hs:SetB W V n l) (hg:W.grownBy W' (some V)):FSt w L P cv c fv mv f out rows W':=by
 obtain⟨es,clock,hm,_⟩:=hs;refine⟨h.place.grown hg ?_,h.own.kept hg (.inr ?_),h.below.grown hg h.below.size (fun q hq=>by cases hq;exact hV),fun x hx=>?_,h.hP⟩
 ·intro e;injection e with e;subst e;have hp:=h.place;unfold PlaceAt at hp;rw [hm] at hp;cases hp
 ·intro e;rcases h.own.2 with ⟨e2,_⟩|⟨g,cap,cur,e2,_,hh,_⟩
  ·rw [e2] at e;cases e
  ·rw [e2] at e;simp only [Value.ownBlock,Option.some.injEq] at e;subst e;rw [hh] at hm;cases hm
 ·obtain⟨h1,h2⟩:=h.kept x hx;exact⟨(hg.block x.1 (lt_of_block h1) (fun e=>by injection e with e;rw [e,hm] at h1;injection h1 with h1;exact h2.2.2 _ _ h1.symm)).trans h1,h2⟩
end
end Go.Proofs.YtcnmfcgmnkncaaaGreatDoor
