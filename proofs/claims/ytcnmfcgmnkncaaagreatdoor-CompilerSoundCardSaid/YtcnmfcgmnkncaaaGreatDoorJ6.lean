/-
  Several texts in one: CoFoldS, CoReg, CoRowP, CoEval, CoSafe, CoShape, CoNames, CoRun.
-/
import Derived.Test.YtcnmfcgmnkncaaaGreatDoorJ5
import Derived.WalkLawsBesides
import Derived.OwnWalk
import Derived.Deep.LoopGhost
import Derived.Deep.DeepCutAuto
import Derived.Deep.RegionHeld3
namespace Go.Proofs.YtcnmfcgmnkncaaaGreatDoor
namespace Cw
open Go.RowKit Go.Maps Pw
def FP (x:Tr.E) (w:World) (r:Ending) (w':World):Prop:=∃a',r= .returned (exprV x a')∧BdE x∧SlE (hide (upL w.heap.size []) w') a' x.args∧Below w.heap.size w w'
def RP (e:Tr.E) (n:Int) (a:Value) (w:World) (r:Ending) (w':World):Prop:=∃a',r= .returned (exprV (Co.repl e n) a')∧Below w.heap.size w w'∧((Co.repl e n=e∧a'=a)∨SlE (hide (upL w.heap.size []) w') a' (Co.repl e n).args)
def Q62p (n:Int):Prop:= -2305843009213693952≤n∧n≤2305843009213693951
theorem i64_of {n:Int} (h:Q62p n):Tr.I64 n:=⟨by have:=h.1;omega,by have:=h.2;omega⟩
theorem zQ2 {n:Int} (h:Q62p n):BdE (Co.num n):=⟨zAT (n:=0) (by decide) (by decide),zAT (n:=0) (by decide) (by decide),i64_of h,zD6⟩
theorem zBG {e:Tr.E} {n:Int} (he:BdE e) (h:Q62p n):BdE (Co.repl e n):=by
 rcases Co.zAZ e n with h2|⟨_,h2⟩|⟨_,_,h2⟩
 ·rw [h2];exact he
 ·rw [h2];exact zQ2 h
 ·rw [h2];exact⟨zAT (n:=8) (by decide) (by decide),zAT (n:=0) (by decide) (by decide),zAT (n:=0) (by decide) (by decide),zD6⟩
theorem zLA (b:Bool):Q62p (Co.bit b):=by cases b<;>exact ⟨by decide,by decide⟩
theorem zKS:∀ {l:List Tr.E} {j:Nat} {e:Tr.E},l[j]? =some e→Co.wE e≤Co.wEs l
 | [],j,e,h=>by simp at h
 |x::r,0,e,h=>by cases h;rw [Co.wEs];omega
 |x::r,j+1,e,h=>by rw [Co.wEs];have:=zKS (l:=r) (j:=j) (by simpa using h);omega
theorem wE_len {e:Tr.E}:e.args.length≤Co.wE e:=by cases e;rw [Co.wE];show List.length _≤_;dsimp only [Tr.E.args];omega
theorem zTG {e:Tr.E}:Co.wEs e.args≤Co.wE e:=by cases e;rw [Co.wE];dsimp only [Tr.E.args];omega
theorem zG:∀ {l:List Tr.E} {j:Nat} {e:Tr.E},Tr.validEs l=true→l[j]? =some e→Tr.validE e=true
 | [],j,e,_,h=>by simp at h
 |x::r,0,e,hv,h=>by cases h;rw [Tr.validEs,Bool.and_eq_true] at hv;exact hv.1
 |x::r,j+1,e,hv,h=>by rw [Tr.validEs,Bool.and_eq_true] at hv;exact zG (l:=r) (j:=j) hv.2 (by simpa using h)
theorem zHV:∀(l:List Tr.E) (x:Tr.E),Co.folds (l++ [x])=Co.folds l++ [Co.fold x]
 | [],x=>by rw [List.nil_append,Co.folds,Co.folds,Co.folds];rfl
 |y::r,x=>by rw [List.cons_append,Co.folds,Co.folds,zHV r x];rfl
theorem zCT {α:Type} {l:List α} {j:Nat} {x:α} (h:l[j]? =some x):l.take (j+1)=l.take j++ [x]:=by rw [List.take_add_one,h];rfl
theorem zHU {l:List Tr.E} {j:Nat} {x:Tr.E} (h:l[j]? =some x):Co.folds (l.take (j+1))=Co.folds (l.take j)++ [Co.fold x]:=by rw [zCT h,zHV]
theorem RowOk.made {α:Type} {f:α→List Value} {k:Nat} {t:TypeId} {ok:World→α→Prop} {B:Nat} {l:List Nat} {W:World} {g n:Nat} (h:W.ownsRow B t k (.slice (some ⟨g,0,none⟩) 0 n) 0 []) (hn:∀q∈l,q<g):RowOk f k t ok B l W (.slice (some ⟨g,0,none⟩) 0 n) []:=
 ⟨h,(fun _ hx=>by cases hx),fun q hq e=>by injection e with e;have:=hn q hq;have e2:g=q:=e;omega⟩
theorem My.newE {w W W1:World} {bs:List Bk} {v:Value} {tr:List ET} {y:Tr.E} {a':Value} (h:My w bs [] W) (hr:RowOk eCells 6 37 ReadET w.heap.size (bs.map Prod.fst) W v tr) (hb:Below W.heap.size W W1) (hbd:BdE y) (hs:SlE (hide (upL W.heap.size []) W1) a' y.args) {W2:World} (hW:W2=W1.alloc (.cells #[.int .i64 y.kind,.int .i64 y.op,.int .i64 y.int,.string y.name,.bool y.at_,a'] 37)):
 My w bs [] W2∧RowOk eCells 6 37 ReadET w.heap.size (bs.map Prod.fst) W2 v tr∧SrcAt W2 eCells (.slice (some ⟨W1.heap.size,0,none⟩) 1 1) [(y,a')]∧(∀x∈ [(y,a')],ReadET (hide (upL w.heap.size (bs.map Prod.fst++ownL v)) W2) x)∧(∀a∈ [(y,a')],∀u∈eCells a,u.oneCell'=true)∧w.heap.size≤W2.heap.size∧∀q∈bs.map Prod.fst,q<W2.heap.size:=by
 subst hW
 have hbx:=zD W1 (.cells #[.int .i64 y.kind,.int .i64 y.op,.int .i64 y.int,.string y.name,.bool y.at_,a'] 37)
 have h2:=(h.below hb).below hbx
 have hrd:ReadET (hide (upL w.heap.size (bs.map Prod.fst++ownL v)) (W1.alloc (.cells #[.int .i64 y.kind,.int .i64 y.op,.int .i64 y.int,.string y.name,.bool y.at_,a'] 37))) (y,a'):=by
  refine⟨hbd,hs.inc (zBR (row:=none) (zEI hbx none) (fun _ e=>by cases e) (fun q _ hq=> .inl ?_))⟩
  rcases hq with hq|hq
  ·exact Nat.lt_of_lt_of_le hq h.le
  ·rcases List.mem_append.1 hq with hq|hq
   ·exact(h.lts hq).2.1
   ·exact(hr.ge (zV.1 hq)).2
 refine⟨h2,(hr.below zJ hb).below zJ hbx,SrcAt.of_blk (f:=eCells) (x:=(y,a')) (zPN rfl) rfl,fun x hx=>by rw [List.mem_singleton.1 hx];exact hrd,fun a ha=>?_,h2.le,fun q hq=>(h2.lts hq).2.1⟩
 exact zEX (w:=hide (upL w.heap.size (bs.map Prod.fst++ownL v)) (W1.alloc (.cells #[.int .i64 y.kind,.int .i64 y.op,.int .i64 y.int,.string y.name,.bool y.at_,a'] 37))) (fun x hx=>by rw [List.mem_singleton.1 hx];exact hrd) a ha
theorem My.pushed {w W W':World} {bs:List Bk} {v:Value} {tr:List ET} (h:My w bs [] W) (hr:RowOk eCells 6 37 ReadET w.heap.size (bs.map Prod.fst) W v tr) (hg:W.grownBy W' v.ownBlock):My w bs [] W':=
 h.push hg (fun q hq=>⟨(hr.ge hq).1,fun hm=>hr.nin q hm hq⟩)
theorem My.repl {w W W':World} {bs:List Bk} {e:Tr.E} {n:Int} {a:Value} {r:Ending} (h:My w bs [fun U=>SlE U a e.args] W) (hp:RP e n a W r W'):∃a',r= .returned (exprV (Co.repl e n) a')∧Hid (My w bs [fun U=>SlE U a' (Co.repl e n).args] W'):=by
 obtain⟨a',rfl,hb,hc⟩:=hp
 refine⟨a',rfl,zh ?_⟩
 rcases hc with ⟨e1,rfl⟩|hs
 ·rw [e1]
  exact h.below hb
 ·exact(h.add (r:=fun U=>SlE U a' (Co.repl e n).args) hb (fun _ _ hi hs=>SlE.inc hs hi) hs).few (fun r hr=>by rw [List.mem_singleton.1 hr];exact List.mem_cons_self ..)
theorem My.retE {w W:World} {bs:List Bk} {x:Tr.E} {a:Value} {R:Nat} {y0 y1 y2 y3 y4 y5:Value} (h:My w bs [fun U=>SlE U a x.args] W) (i:Nat) (hi:bs[i]? =some (R,#[y0,y1,y2,y3,y4,y5],37)) {fn:Func} {q:Tmp} {A:Act} (hr:fn.results= #[.cell q 37]) (hq:A.tmps.getD q undef= .pointer (some ⟨R,0,none⟩)) (hd:A.defers= []) (hx:BdE x):
 bodyPost Tryz.prog fn (FP x w) .ret A (set6 W R (.int .i64 x.kind) (.int .i64 x.op) (.int .i64 x.int) (.string x.name) (.bool x.at_) a):=by
 have h2:=h.set i hi (zK4 W R (.int .i64 x.kind) (.int .i64 x.op) (.int .i64 x.int) (.string x.name) (.bool x.at_) a) (zIA _ _ _ _ _ _ (h.b i hi))
 have hil:i<bs.length:=(List.getElem?_eq_some_iff.1 hi).1
 have hS:=h2.b i (X:=R) (by rw [List.getElem?_set,if_pos rfl,if_pos hil])
 exact bodyPost_ret (v:=exprV x a) (results_cell_row hr _ _ R _ _ _ _ hq hS Tryz.underlying37 rfl (by kernel_rfl)) hd ⟨a,rfl,hx,My.seen h2 0 rfl,My.fin h2⟩
theorem My.retP {w W:World} {bs:List Bk} {os:List (World→Prop)} {x:Tr.E} {a:Value} {R:Nat} {y0 y1 y2 y3 y4 y5:Value} (h:My w bs os W) (i:Nat) (hi:bs[i]? =some (R,#[y0,y1,y2,y3,y4,y5],37)) {fn:Func} {q:Tmp} {A:Act} (hr:fn.results= #[.cell q 37]) (hq:A.tmps.getD q undef= .pointer (some ⟨R,0,none⟩)) (hd:A.defers= []) {Post:Ending→World→Prop}
 (hp:∀W',My w (bs.set i (R,#[.int .i64 x.kind,.int .i64 x.op,.int .i64 x.int,.string x.name,.bool x.at_,a],37)) os W'→Post (.returned (exprV x a)) W'):
 bodyPost Tryz.prog fn Post .ret A (set6 W R (.int .i64 x.kind) (.int .i64 x.op) (.int .i64 x.int) (.string x.name) (.bool x.at_) a):=by
 have h2:=h.set i hi (zK4 W R (.int .i64 x.kind) (.int .i64 x.op) (.int .i64 x.int) (.string x.name) (.bool x.at_) a) (zIA _ _ _ _ _ _ (h.b i hi))
 have hil:i<bs.length:=(List.getElem?_eq_some_iff.1 hi).1
 have hS:=h2.b i (X:=R) (by rw [List.getElem?_set,if_pos rfl,if_pos hil])
 exact bodyPost_ret (v:=exprV x a) (results_cell_row hr _ _ R _ _ _ _ hq hS Tryz.underlying37 rfl (by kernel_rfl)) hd (hp _ h2)
theorem My.retPb {w W:World} {bs:List Bk} {os:List (World→Prop)} {x:Tr.E} {a:Value} {R:Nat} {y0 y1 y2 y3 y4 y5:Value} {ys:Array Value} {ty2:TypeId} (h:My w bs os W) (i:Nat) (hi:bs[i]? =some (R,#[y0,y1,y2,y3,y4,y5],37)) {fn:Func} {q:Tmp} {A:Act} (hr:fn.results= #[.cell q 37]) (hq:A.tmps.getD q undef= .pointer (some ⟨R,0,none⟩)) (hd:A.defers= []) {Post:Ending→World→Prop}
 (hp:∀W',My w ((W.heap.size,ys,ty2)::bs.set i (R,#[.int .i64 x.kind,.int .i64 x.op,.int .i64 x.int,.string x.name,.bool x.at_,a],37)) os W'→Post (.returned (exprV x a)) W'):
 bodyPost Tryz.prog fn Post .ret A ((set6 W R (.int .i64 x.kind) (.int .i64 x.op) (.int .i64 x.int) (.string x.name) (.bool x.at_) a).alloc (.cells ys ty2)):=by
 have h2:=h.set i hi (zK4 W R (.int .i64 x.kind) (.int .i64 x.op) (.int .i64 x.int) (.string x.name) (.bool x.at_) a) (zIA _ _ _ _ _ _ (h.b i hi))
 have h3:=h2.box (X:=W.heap.size) (by simp [set6]) ys ty2
 have hil:i<bs.length:=(List.getElem?_eq_some_iff.1 hi).1
 have hS:=h3.b (i+1) (X:=R) (by rw [List.getElem?_cons_succ,List.getElem?_set,if_pos rfl,if_pos hil])
 exact bodyPost_ret (v:=exprV x a) (results_cell_row hr _ _ R _ _ _ _ hq hS Tryz.underlying37 rfl (by kernel_rfl)) hd (hp _ h3)
set_option maxRecDepth 100000 in
set_option maxHeartbeats 4000000 in
theorem zAW (e:Tr.E) (n:Int) (a:Value) (w:World) (hn:Q62p n) (hf:∃p N c,a= .slice p N c):Calls Tryz.prog 66 #[exprV e a,.int .i64 n] w (RP e n a w):=by
 obtain⟨k,o,i,nm,at_,l⟩:=e
 obtain⟨p,N,c,rfl⟩:=hf
 have HQ:=zh hn
 unfold exprV
 simp only [Tr.E.kind,Tr.E.op,Tr.E.int,Tr.E.name,Tr.E.at_]
 have C0:=zh (My.start w)
 have hw0:=HQ.out.1
 have hw1:=HQ.out.2
 clear hn
 obtain⟨E,w1,HX1,HW1,hx1,C1⟩:=C0.out.boxE #[.int .i64 k,.int .i64 o,.int .i64 i,.string nm,.bool at_,.slice p N c] 37
 obtain⟨R,w2,HX2,HW2,hx2,C2⟩:=C1.out.boxE #[.int .i64 0,.int .i64 0,.int .i64 0,.string ⟨#[]⟩,.bool false,.slice none 0 0] 37
 have HY2:Hid (R=E+1):=zh (by rw [HX2.out,HW1.out,HX1.out];simp)
 go_enter Tryz.func66,Tryz.ntmps66
 go_upto_region 1 with fail
 rw [←HX1.out,←HW1.out,←HY2.out,←HW2.out]
 clear HX1 HW1 C0 HY2 HX2 HW2 C1
 by_cases hge:0≤n
 ·have q0:=cells6 (C2.out.b 0 rfl)
  have HE:Hid (Co.repl (.mk k o i nm at_ l) n=Co.num n):=zh (if_pos hge)
  go_wp2_with fail
  refine My.retP C2.out (x:=Co.num n) (a:= .slice none 0 0) 0 rfl Tryz.results66 rfl rfl (fun W hW=>⟨_,by rw [HE.out],My.fin hW,.inr ?_⟩)
  rw [HE.out]
  exact .nil none 0
 ·by_cases hmin:n= -2305843009213693952
  ·have q1:=cells6 (C2.out.b 1 rfl)
   have q0:=cells6 (C2.out.b 0 rfl)
   have HE:Hid (Co.repl (.mk k o i nm at_ l) n= .mk k o i nm at_ l):=zh (by unfold Co.repl;rw [if_neg hge,if_pos hmin])
   have hmb:(n == -2305843009213693952)=true:=beq_iff_eq.2 hmin
   clear hw0 hw1 hmin
   go_wp2_with fail
   exact My.retP C2.out (x:= .mk k o i nm at_ l) (a:= .slice p N c) 0 rfl Tryz.results66 rfl rfl (fun W hW=>⟨_,by rw [HE.out],My.fin hW,.inl ⟨HE.out,rfl⟩⟩)
  ·have HE:Hid (Co.repl (.mk k o i nm at_ l) n= .mk 8 0 0 ⟨#[]⟩ false [Co.num (-n)]):=zh (by unfold Co.repl;rw [if_neg hge,if_neg hmin])
   have hmb:(n == -2305843009213693952)=false:=beq_eq_false_iff_ne.2 hmin
   have HNM:=zh (zQ2 (n:= -n) ⟨by omega,by omega⟩)
   have hwn:wrap64 (-n)= -n:=by unfold wrap64;omega
   clear hmin
   go_upto_region 5 with fail
   have q0:=cells6 (C2.out.b 0 rfl)
   go_wp2_with fail
   try rw [hwn]
   refine My.retPb C2.out (x:= .mk 8 0 0 ⟨#[]⟩ false [Co.num (-n)]) (a:= .slice (some ⟨w2.heap.size,0,none⟩) 1 1) 0 rfl Tryz.results66 rfl rfl (fun W hW=>⟨_,by rw [HE.out],My.fin hW,.inr ?_⟩)
   rw [HE.out]
   have hf:=hW.fold (r:=fun U=>SlE U (.slice (some ⟨w2.heap.size,0,none⟩) 1 1) [Co.num (-n)]) (fun _ _ hi hs=>SlE.inc hs hi) (fun U hb _=>zD5 (e:=Co.num (-n)) (a:= .slice none 0 0) hb HNM.out (.nil none 0))
   exact My.seen hf 0 rfl
end Cw
end Go.Proofs.YtcnmfcgmnkncaaaGreatDoor
namespace Go.Proofs.YtcnmfcgmnkncaaaGreatDoor
namespace Cw
section
variable {P:Program} {ops:Array Oper} {Q:Exit→Act→World→Prop} {md:Region.Mode} {S:World→Prop} {fuel:Nat} {listed:Array Bool} {a:Act} {w:World} {x1:Op} {x2:TypeId} {x3:String} {x4:Array Edge} {x5:Option (Nat × Bool)} {y1:Op} {y2:TypeId} {y3:String} {y4:Array Edge} {y5:Option (Nat × Bool)}
theorem rT (i:Nat) (d:Option Nat) {v:Value} (h:wpAnyH P md ops Q S fuel (listed.setIfInBounds i true) (a.put d v) w)
 (hi:ops[i]? =some ⟨d,x1,x2,x3,x4,x5⟩:=by rfl) (hw:Region.wanted ⟨d,x1,x2,x3,x4,x5⟩ (yielded ops a.tmps)=true:=by rfl)
 (hv:∀w,S w→(execOp a.eval ⟨d,x1,x2,x3,x4,x5⟩).run P w= .ok (.value v) w:=by intro w hSw;(try dsimp only at hSw);go_simp;(try with_reducible rfl))
 (hs:Region.noSelect ops=true:=by kernel_rfl) (hf:Region.free md ops listed i=true:=by kernel_rfl) (hr:(Region.ready md ops listed).contains i=true:=by kernel_rfl)
 (hQ:∀c a w,Q (.panic c) (a.put d v) w→Q (.panic c) a w:=by exact fun _ _ _ h=>h) (hS:S w:=by first|trivial|assumption):wpAnyH P md ops Q S (fuel+1) listed a w:=
 wpAnyH_take hi hs hf hr hQ (Or.inl ⟨hw,hv⟩) hS h
theorem q0 {α:Type} (l:List α) (i:Nat) (x:α):l.toArray.setIfInBounds i x=(l.set i x).toArray:=List.setIfInBounds_toArray ..
theorem q1 {α:Type} (x y:α) (l:List α):(x::l).set 0 y=y::l:=List.set_cons_zero ..
theorem q2 {α:Type} (x y:α) (l:List α) (i:Nat):(x::l).set (i+1) y=x::l.set i y:=List.set_cons_succ ..
theorem rU (i:Nat) (d:Option Nat) {v:Value} {a':Act} (h:wpAnyH P md ops Q S fuel (listed.setIfInBounds i true) a' w)
 (hi:ops[i]? =some ⟨d,x1,x2,x3,x4,x5⟩:=by rfl) (hw:Region.wanted ⟨d,x1,x2,x3,x4,x5⟩ (yielded ops a.tmps)=true:=by rfl)
 (hv:∀w,S w→(execOp a.eval ⟨d,x1,x2,x3,x4,x5⟩).run P w= .ok (.value v) w:=by intro w hSw;(try dsimp only at hSw);go_simp;(try with_reducible rfl))
 (ha:a.put d v=a':=by simp only [Act.put,q0,q1,q2];rfl)
 (hs:Region.noSelect ops=true:=by kernel_rfl) (hf:Region.free md ops listed i=true:=by kernel_rfl) (hr:(Region.ready md ops listed).contains i=true:=by kernel_rfl)
 (hQ:∀c a w,Q (.panic c) (a.put d v) w→Q (.panic c) a w:=by exact fun _ _ _ h=>h) (hS:S w:=by first|trivial|assumption):wpAnyH P md ops Q S (fuel+1) listed a w:=by
 subst ha
 exact rT i d h hi hw hv hs hf hr hQ hS
theorem rR1 (i:Nat) (d:Option Nat)
 (h:∀K':Act→World→Prop,Shut (∀a w,S w→(S w→wpAnyH P md ops Q S fuel (listed.setIfInBounds i true) a w)→K' a w)→if Region.wanted ⟨d,x1,x2,x3,x4,x5⟩ (yielded ops a.tmps)=true then Oper.wp P ⟨d,x1,x2,x3,x4,x5⟩ a w K' Q else K' (a.put d undef) w)
 (hr:Region.ready md ops listed= [i]:=by kernel_rfl) (hi:ops[i]? =some ⟨d,x1,x2,x3,x4,x5⟩:=by rfl):wpAnyH P md ops Q S (fuel+1) listed a w:=
 wpAnyH_ready hr (by simp) (AllReadyH.cons hi h AllReadyH.nil)
theorem rR2 (i:Nat) (d:Option Nat) (j:Nat) (d':Option Nat)
 (h:∀K':Act→World→Prop,Shut (∀a w,S w→(S w→wpAnyH P md ops Q S fuel (listed.setIfInBounds i true) a w)→K' a w)→if Region.wanted ⟨d,x1,x2,x3,x4,x5⟩ (yielded ops a.tmps)=true then Oper.wp P ⟨d,x1,x2,x3,x4,x5⟩ a w K' Q else K' (a.put d undef) w)
 (h':∀K':Act→World→Prop,Shut (∀a w,S w→(S w→wpAnyH P md ops Q S fuel (listed.setIfInBounds j true) a w)→K' a w)→if Region.wanted ⟨d',y1,y2,y3,y4,y5⟩ (yielded ops a.tmps)=true then Oper.wp P ⟨d',y1,y2,y3,y4,y5⟩ a w K' Q else K' (a.put d' undef) w)
 (hr:Region.ready md ops listed= [i,j]:=by kernel_rfl) (hi:ops[i]? =some ⟨d,x1,x2,x3,x4,x5⟩:=by rfl) (hj:ops[j]? =some ⟨d',y1,y2,y3,y4,y5⟩:=by rfl):wpAnyH P md ops Q S (fuel+1) listed a w:=
 wpAnyH_ready hr (by simp) (AllReadyH.cons hi h (AllReadyH.cons hj h' AllReadyH.nil))
end
end Cw
end Go.Proofs.YtcnmfcgmnkncaaaGreatDoor
namespace Go.Proofs.YtcnmfcgmnkncaaaGreatDoor
namespace Cw
open Go.RowKit Go.Maps Pw
section
variable {α:Type} {f:α→List Value} {k:Nat} {t:TypeId} {ok:World→α→Prop} {B:Nat} {l l':List Nat} {W W':World} {v:Value} {tr:List α} {P:World→Prop}
theorem RowOk.box (hmono:Mono ok) (h:RowOk f k t ok B l W v tr) {X:Nat} (hX:X=W.heap.size) (o:Obj):RowOk f k t ok B (X::l) (W.alloc o) v tr:=by
 have hb:=zD W o
 refine⟨(h.below hmono hb).own,fun x hx=>hmono _ _ _ (zBR (zEI hb none) (fun _ e=>by cases e) (fun q hq hs=>?_)) (h.rd x hx),fun q hq e=>?_⟩
 ·rcases hs with hs|hs
  ·exact .inl hs
  ·rw [List.cons_append] at hs
   rcases List.mem_cons.1 hs with hs|hs
   ·omega
   ·exact .inr hs
 ·rcases List.mem_cons.1 hq with hq|hq
  ·have:=(h.ge e).2
   omega
  ·exact h.nin q hq e
theorem RowOk.sub (hmono:Mono ok) (h:RowOk f k t ok B l W v tr) (hs:∀q∈l',q∈l):RowOk f k t ok B l' W v tr:=
 ⟨h.own,fun x hx=>hmono _ _ _ (zDN (fun q _ hq=>by
  rcases hq with hq|hq
  ·exact .inl hq
  ·rcases List.mem_append.1 hq with hq|hq
   ·exact .inr (List.mem_append.2 (.inl (hs q hq)))
   ·exact .inr (List.mem_append.2 (.inr hq)))) (h.rd x hx),fun q hq=>h.nin q (hs q hq)⟩
theorem RowOk.both (h:RowOk f k t ok B l W v tr) (hp:P (hide (upL B (l++ownL v)) W)):RowOk f k t (fun U x=>ok U x∧P U) B l W v tr:=⟨h.own,fun x hx=>⟨h.rd x hx,hp⟩,h.nin⟩
theorem RowOk.left (h:RowOk f k t (fun U x=>ok U x∧P U) B l W v tr):RowOk f k t ok B l W v tr:=⟨h.own,fun x hx=>(h.rd x hx).1,h.nin⟩
theorem RowOk.right (h:RowOk f k t (fun U x=>ok U x∧P U) B l W v tr) {x:α} (hx:x∈tr):P (hide (upL B (l++ownL v)) W):=(h.rd x hx).2
theorem RowOk.pend (h:RowOk f k t ok B l W v tr) (hB:B≤W.heap.size) (hl:∀q∈l,q<W.heap.size):Inc (hide (upL W.heap.size []) W') (hide (upL B (l++ownL v)) W'):=
 zPY hB (fun q hq=>by
  rcases List.mem_append.1 hq with hq|hq
  ·exact hl q hq
  ·exact(h.ge (zV.1 hq)).2)
theorem zR0 {X:Nat} (hX:X=W.heap.size) (o:Obj):Inc (hide (upL B (l++ownL v)) W) (hide (upL B (X::l++ownL v)) (W.alloc o)):=
 zBR (zEI (zD W o) none) (fun _ e=>by cases e) (fun q hq hs=>by
  rcases hs with hs|hs
  ·exact .inl hs
  ·rw [List.cons_append] at hs
   rcases List.mem_cons.1 hs with hs|hs
   ·omega
   ·exact .inr hs)
theorem zJC {P:Program} {e:TypeId} (hf:∀a,(f a).length=k) (hmono:Mono ok) {ops:Array Oper} {E:Prop} {o:Oper} {a:Act} {K:Act→World→Prop} {Q:Exit→Act→World→Prop} (hgd:o.guard=none) (s x:Operand) (t:TypeId)
 (ho:o.op= .call { callee:= .builtin .append,args:= #[s,x],argTypes:= #[t,t] })
 (i:TypeInfo) (z:Value) (bytes:Nat) (ht:P.underlying t=some (.slice e)) (hi:P.info? e=some i) (hz:i.zero=some z)
 (hsize:i.size=k) (hby:i.bytes=bytes) (hzs:z.cells.size=k) (hsz:0<k) (v2:Value) (news:List α) (hs:a.eval s=v) (hx:a.eval x=v2) (hrow:RowOk f k e ok B l W v tr) (hsrc:SrcAt W f v2 news) (hnews:∀x∈news,ok (hide (upL B (l++ownL v)) W) x) (h1:∀a∈news,∀u∈f a,u.oneCell'=true)
 (h63:tr.length+news.length≤maxLen) (hbytes:(tr.length+news.length)*bytes≤140737488355328) (hbase:B≤W.heap.size) (hlw:∀q∈l,q<W.heap.size)
 (h:∀v' w',RowOk f k e ok B l w' v' (tr++news)→W.grownBy w' v.ownBlock→K (a.put o.dst v') w'):if Region.wanted o (yielded ops a.tmps)=true then Oper.wp P o a W K Q else E:=by
 have hw:Region.wanted o (yielded ops a.tmps)=true:=by simp [Region.wanted,hgd]
 rw [if_pos hw]
 obtain⟨v',w',hr,h2,h3⟩:=zL7 (P:=P) hf hmono t o.type i z bytes ht hi hz hsize hby hzs hsz hrow v2 news hsrc hnews h1 h63 hbytes hbase hlw
 unfold Oper.wp execOp
 simp only [ho,resolve,invoke,builtin,Sem.run_bind,Sem.run_pure,Result.andThen_ok,List.map_toArray,List.map_cons,List.map_nil,hs,hx,hr]
 exact h v' w' h2 h3
end
def set6o (w:World) (b o:Nat) (x0 x1 x2 x3 x4 x5:Value):World:=((((((w.setCell ⟨b,o,none⟩ x0).setCell ⟨b,o+1,none⟩ x1).setCell ⟨b,o+2,none⟩ x2).setCell ⟨b,o+3,none⟩ x3).setCell ⟨b,o+4,none⟩ x4).setCell ⟨b,o+5,none⟩ x5)
theorem zD7 (w:World) (b o:Nat) (x0 x1 x2 x3 x4 x5:Value):w.grownBy (set6o w b o x0 x1 x2 x3 x4 x5) (some b):=
 zL (zL (zL (zL (zL (zL (zBE _ _) (zH _ b o x0)) (zH _ b (o+1) x1)) (zH _ b (o+2) x2)) (zH _ b (o+3) x3)) (zH _ b (o+4) x4)) (zH _ b (o+5) x5)
theorem zEP {α:Type} (A L:List α) (j:Nat) (u:α):(A++L).set (A.length+j) u=A++L.set j u:=by
 induction A with
 |nil=>simp
 |cons x r ih=>rw [List.length_cons,List.cons_append,List.cons_append,show r.length+1+j=(r.length+j)+1 by omega,List.set_cons_succ,ih]
theorem zRO {α:Type} (A L:List α) (u:α):(A++L).set A.length u=A++L.set 0 u:=zEP A L 0 u
theorem zQW (y:Tr.E) (a:Value):eCells (y,a)= [.int .i64 y.kind,.int .i64 y.op,.int .i64 y.int,.string y.name,.bool y.at_,a]:=rfl
theorem RowOk.put {B:Nat} {l:List Nat} {W:World} {g n c:Nat} {tr:List ET} {z:ET} (h:RowOk eCells 6 37 ReadET B l W (.slice (some ⟨g,0,none⟩) n c) (tr++ [z])) (y:Tr.E) (a:Value) (hy:ReadET (hide (upL B (l++ownL (.slice (some ⟨g,0,none⟩) n c))) W) (y,a)) {m:Nat} (hm:tr.length=m) {W':World} (hW:W'=set6o W g (m*6) (.int .i64 y.kind) (.int .i64 y.op) (.int .i64 y.int) (.string y.name) (.bool y.at_) a):
 RowOk eCells 6 37 ReadET B l W' (.slice (some ⟨g,0,none⟩) n c) (tr++ [(y,a)]):=by
 subst hW
 have hg:=zD7 W g (m*6) (.int .i64 y.kind) (.int .i64 y.op) (.int .i64 y.int) (.string y.name) (.bool y.at_) a
 have hin:∀q:Nat,some g=some q→q<B∨q∈l++ownL (.slice (some ⟨g,0,none⟩) n c):=fun q e=> .inr (List.mem_append.2 (.inr (zV.2 e)))
 have hinc:Inc (hide (upL B (l++ownL (.slice (some ⟨g,0,none⟩) n c))) W) (hide (upL B (l++ownL (.slice (some ⟨g,0,none⟩) n c))) (set6o W g (m*6) (.int .i64 y.kind) (.int .i64 y.op) (.int .i64 y.int) (.string y.name) (.bool y.at_) a)):=zBR hg hin (fun _ _ h=>h)
 refine⟨?_,fun x hx=>?_,h.nin⟩
 ·obtain⟨hf,ho⟩:=h.own
  have hlen:(flatV eCells tr).length=m*6:=by rw [zBD eCells 6 zA7 tr,hm]
  have hz:eCells z= [.int .i64 z.1.kind,.int .i64 z.1.op,.int .i64 z.1.int,.string z.1.name,.bool z.1.at_,z.2]:=zQW z.1 z.2
  refine⟨?_,?_⟩
  ·rw [zAP,z8,zC4,List.append_nil] at hf ⊢
   rw [List.length_append,List.length_append,zA7] at hf ⊢
   exact hf
  ·rcases ho with ⟨e,_⟩|⟨b,cap,cur,e,hb,hblk,hn,hmx,hcs,ht⟩
   ·cases e
   ·injection e with e1 e2 e3
    injection e1 with e1
    injection e1 with e1
    subst e1
    subst e3
    refine .inr ⟨g,c,_,by rw [e2,List.length_append,List.length_append];rfl,hb,heap_set (j:=m*6+5) _ (heap_set (j:=m*6+4) _ (heap_set (j:=m*6+3) _ (heap_set (j:=m*6+2) _ (heap_set (j:=m*6+1) _ (heap_set (j:=m*6) _ hblk))))),?_,hmx,by simp only [Array.size_setIfInBounds];exact hcs,?_⟩
    ·rw [List.length_append] at hn ⊢
     exact hn
    ·simp only [Array.toList_setIfInBounds,List.take_set]
     have ht2:List.take ((tr++ [(y,a)]).length*6) cur.toList=flatV eCells tr++eCells z:=by
      rw [List.length_append] at ht ⊢
      rw [zAP,z8,zC4,List.append_nil] at ht
      exact ht
     rw [ht2,hz,zAP,z8,zC4,List.append_nil,←hlen]
     rw [zRO,zEP,zEP,zEP,zEP,zEP]
     rfl
 ·rcases List.mem_append.1 hx with hx|hx
  ·exact zJ _ _ _ hinc (h.rd x (List.mem_append.2 (.inl hx)))
  ·rw [List.mem_singleton.1 hx]
   exact zJ _ _ _ hinc hy
end Cw
end Go.Proofs.YtcnmfcgmnkncaaaGreatDoor
namespace Go.Proofs.YtcnmfcgmnkncaaaGreatDoor
namespace Co
open Tr
abbrev Val:=Option Int
abbrev Res:=Val × Nat × Bool
def truth (v:Val):Bool:=match v with
 |some n=>n != 0
 |none=>false
mutual
def cov:E→Bool
 | .mk k _ _ nm _ l=>if k=0∨k=1 then true else if k=3 then decide (nm=⟨#[97]⟩)||decide (nm=⟨#[98]⟩) else if k=8∨k=9∨k=10 then covs l else false
def covs:List E→Bool
 | []=>true
 |e::r=>cov e && covs r
end
def operate (et er:Nat) (o:Int) (a b:Val):Val × Nat:=
 if o=5 then(some (bit (a == b)),0) else if o=6 then(some (bit (a != b)),0)
 else match a,b with
  |some a,some b=>
   if o=7 then(some (bit (decide (a<b))),0) else if o=8 then(some (bit (decide (a≤b))),0) else if o=9 then(some (bit (decide (b<a))),0) else if o=10 then(some (bit (decide (b≤a))),0)
   else if o=0 then(some (wrap (a+b)),0) else if o=1 then(some (wrap (a -b)),0) else if o=2 then(some (wrap (a*b)),0)
   else if b=0 then(none,er) else if o=3 then(some (wrap (a.tdiv b)),0) else(some (wrap (a.tmod b)),0)
  |_,_=>(none,et)
def neg1 (et:Nat) (x:Res):Res:=if x.2.1≠0∨x.2.2=false then(none,x.2.1,x.2.2) else match x.1 with
 |some n=>(some (wrap (-n)),0,true)
 |none=>(none,et,true)
def not1 (x:Res):Res:=if x.2.1≠0∨x.2.2=false then(none,x.2.1,x.2.2) else(some (bit (!truth x.1)),0,true)
def bin2 (et er:Nat) (o:Int) (x:Res) (cy:Bool) (y:Res):Res:=
 if x.2.2=false∨cy=false then(none,x.2.1,false)
 else if x.2.1≠0 then(none,x.2.1,true)
 else if (o=11∧truth x.1=false)∨(o=12∧truth x.1=true) then(some (bit (truth x.1)),0,true)
 else if y.2.1≠0∨y.2.2=false then(none,y.2.1,y.2.2)
 else if o=11∨o=12 then(some (bit (truth y.1)),0,true)
 else((operate et er o x.1 y.1).1,(operate et er o x.1 y.1).2,true)
def node (et er:Nat) (a b:Val) (k o i:Int) (nm:ByteArray) (l:List (Res × Bool)):Res:=
 if k=0 then(some i,0,true) else if k=1 then(none,0,true)
 else if k=3 then(if nm=⟨#[97]⟩ then(a,0,true) else(b,0,decide (nm=⟨#[98]⟩)))
 else match l with
  |x::r=>
   if k=8 then neg1 et x.1 else if k=9 then not1 x.1
   else if k=10 then(match r with
    |y::_=>bin2 et er o x.1 y.2 y.1
    | []=>(none,0,false))
   else(none,0,false)
  | []=>(none,0,false)
mutual
def eval (et er:Nat) (a b:Val):E→Res
 | .mk k o i nm _ l=>node et er a b k o i nm (evals et er a b l)
def evals (et er:Nat) (a b:Val):List E→List (Res × Bool)
 | []=> []
 |e::r=>(eval et er a b e,cov e)::evals et er a b r
end
theorem zFX {n:Int} (h0: -2305843009213693952≤n) (h1:n≤2305843009213693951):wrap n=n:=by unfold wrap;omega
section
variable {et er:Nat} {a b:Val}
theorem zMY (n:Int):eval et er a b (num n)=(some n,0,true):=by
 unfold num
 rw [eval]
 rfl
theorem zEV {e:E} {n:Int} (h:validE e=true) (hc:const e=some n):eval et er a b e=(some n,0,true):=by
 have hb:=zBP h hc
 cases e with
 |mk k o i nm at_ l=>
  unfold const at hc
  dsimp only at hc
  split at hc
  ·cases hc
   rw [eval]
   unfold node
   rw [if_pos ‹_›]
  ·split at hc
   ·cases l with
    |nil=>cases hc
    |cons x r=>
     dsimp only at hc
     split at hc
     ·cases hc
      rename_i h0 h8 hx
      subst h8
      cases x with
      |mk k2 o2 i2 nm2 a2 l2=>
       have hk:k2=0:=hx.1
       subst hk
       have hb2: -2305843009213693951≤ -i2∧ -i2≤2305843009213693951:=hb
       rw [eval,evals,eval]
       show neg1 et (some i2,0,true)=_
       unfold neg1
       rw [if_neg (by simp)]
       show(some (wrap (-i2)),0,true)=(some (-i2),0,true)
       rw [zFX (by omega) (by omega)]
     ·cases hc
   ·cases hc
theorem zB9 {e:E} {n:Int} (h0: -2305843009213693952≤n) (h1:n≤2305843009213693951) (h:eval et er a b e=(some n,0,true)):eval et er a b (repl e n)=(some n,0,true):=by
 rcases zAZ e n with h2|⟨_,h2⟩|⟨h3,h4,h2⟩
 ·rw [h2];exact h
 ·rw [h2];exact zMY n
 ·rw [h2,eval,evals,zMY]
  show neg1 et (some (-n),0,true)=_
  unfold neg1
  rw [if_neg (by simp)]
  show(some (wrap (- -n)),0,true)=_
  rw [Int.neg_neg,zFX h0 h1]
end
end Co
end Go.Proofs.YtcnmfcgmnkncaaaGreatDoor
namespace Go.Proofs.YtcnmfcgmnkncaaaGreatDoor
namespace Co
open Tr
theorem zEZ {k o i:Int} {nm:ByteArray} {a:Bool} {l:List E} (h:cov (.mk k o i nm a l)=true) (hk:k=8∨k=9∨k=10):covs l=true:=by
 rw [cov] at h
 rw [if_neg (by omega),if_neg (by omega),if_pos hk] at h
 exact h
theorem zS7 {k o i:Int} {nm:ByteArray} {a:Bool} {l l':List E} (h:cov (.mk k o i nm a l)=true) (hl:covs l=true→covs l'=true):cov (.mk k o i nm a l')=true:=by
 rw [cov] at h ⊢
 split
 ·rfl
 ·rename_i h1
  rw [if_neg h1] at h
  split
  ·rename_i h2
   rw [if_pos h2] at h
   exact h
  ·rename_i h2
   rw [if_neg h2] at h
   split
   ·rename_i h3
    rw [if_pos h3] at h
    exact hl h
   ·rename_i h3
    rw [if_neg h3] at h
    cases h
theorem zQY (n:Int):cov (num n)=true:=by
 unfold num
 rw [cov]
 rfl
theorem zSJ {e:E} {n:Int} (h:cov e=true):cov (repl e n)=true:=by
 rcases zAZ e n with h2|⟨_,h2⟩|⟨_,_,h2⟩
 ·rw [h2];exact h
 ·rw [h2];exact zQY n
 ·rw [h2,cov,covs,covs,zQY]
  rfl
theorem zUC {e:E} (h:cov e=true):cov (top e)=true:=by
 rcases zDZ e with h1|⟨n,h1⟩
 ·rw [h1];exact h
 ·rw [h1];exact zSJ h
mutual
theorem zFU:∀e:E,cov e=true→cov (fold e)=true
 | .mk k o i nm a l,h=>by
   rw [fold]
   exact zUC (zS7 h (zE0 l))
theorem zE0:∀l:List E,covs l=true→covs (folds l)=true
 | [],h=>by rw [folds];exact h
 |e::r,h=>by
  rw [covs,Bool.and_eq_true] at h
  rw [folds,covs,zFU e h.1,zE0 r h.2]
  rfl
end
section
variable {et er:Nat} {a b:Val}
theorem zJN {o n m r:Int} (h0:0≤o) (h1:o≤10) (hn: -2305843009213693951≤n∧n≤2305843009213693951) (h:calcO o n m=some r):operate et er o (some n) (some m)=(some r,0):=by
 have hd:(n.tdiv m).natAbs≤n.natAbs:=by rw [Int.natAbs_tdiv];exact Nat.div_le_self ..
 have hm:(n.tmod m).natAbs≤n.natAbs:=by rw [Int.natAbs_tmod];exact Nat.mod_le ..
 have wd:wrap (n.tdiv m)=n.tdiv m:=zFX (by omega) (by omega)
 have wm:wrap (n.tmod m)=n.tmod m:=zFX (by omega) (by omega)
 have hc:o=0∨o=1∨o=2∨o=3∨o=4∨o=5∨o=6∨o=7∨o=8∨o=9∨o=10:=by omega
 unfold calcO at h
 unfold operate
 rcases hc with rfl|rfl|rfl|rfl|rfl|rfl|rfl|rfl|rfl|rfl|rfl
 ·simp at h ⊢;exact h
 ·simp at h ⊢;exact h
 ·simp at h ⊢;exact h
 ·by_cases hz:m=0
  ·simp [hz] at h
  ·simp [hz] at h ⊢
   rw [wd]
   exact h
 ·by_cases hz:m=0
  ·simp [hz] at h
  ·simp [hz] at h ⊢
   rw [wm]
   exact h
 ·simp at h ⊢;exact h
 ·simp at h ⊢
  rw [←h]
  congr 1
 ·simp at h ⊢;exact h
 ·simp at h ⊢;exact h
 ·simp at h ⊢;exact h
 ·simp at h ⊢;exact h
theorem zN1 {l:List E} {n:Int} (h:(l.head?.bind const:Option Int)=some n):∃x r,l=x::r∧const x=some n:=by
 cases l with
 |nil=>cases h
 |cons x r=>exact ⟨x,r,rfl,h⟩
theorem zI0 {o i:Int} {nm:ByteArray} {at_:Bool} {l:List E} (h:validE (.mk 10 o i nm at_ l)=true):(∃x y,l= [x,y])∧0≤o∧o≤12:=by
 have h2:=(zF h).2
 unfold okE at h2
 simp at h2
 refine⟨?_,by omega,by omega⟩
 match l,h2 with
 | [x,y],_=>exact ⟨x,y,rfl⟩
theorem zSH {e:E} (hv:validE e=true) (hc:cov e=true):eval et er a b (top e)=eval et er a b e:=by
 cases e with
 |mk k o i nm at_ l=>
  have hl:=(zF hv).1
  unfold top
  dsimp only
  split
  ·rename_i hk
   have hcl:=zEZ hc hk
   split
   ·rfl
   ·rename_i n hn
    obtain⟨x,r,rfl,hx⟩:=zN1 hn
    rw [validEs,Bool.and_eq_true] at hl
    rw [covs,Bool.and_eq_true] at hcl
    have hb:=zBP hl.1 hx
    have ex:eval et er a b x=(some n,0,true):=zEV hl.1 hx
    split
    ·rename_i h8
     subst h8
     have he:eval et er a b (.mk 8 o i nm at_ (x::r))=(some (-n),0,true):=by
      rw [eval,evals,ex]
      show neg1 et (some n,0,true)=_
      unfold neg1
      rw [if_neg (by simp)]
      show(some (wrap (-n)),0,true)=_
      rw [zFX (by omega) (by omega)]
     rw [he]
     exact zB9 (by omega) (by omega) he
    ·split
     ·rename_i _ h9
      subst h9
      have he:eval et er a b (.mk 9 o i nm at_ (x::r))=(some (bit (n == 0)),0,true):=by
       rw [eval,evals,ex]
       show not1 (some n,0,true)=_
       unfold not1
       rw [if_neg (by simp)]
       show(some (bit (!(n != 0))),0,true)=_
       rw [bne,Bool.not_not]
      rw [he]
      exact zB9 (zHA _).1 (zHA _).2 he
     ·rename_i h8 h9
      have h10:k=10:=by omega
      subst h10
      obtain⟨⟨x',y,hxy⟩,ho0,ho12⟩:=zI0 hv
      injection hxy with e1 e2
      subst e1
      subst e2
      rw [covs,Bool.and_eq_true] at hcl
      rw [validEs,Bool.and_eq_true] at hl
      have hy:=hcl.2.1
      have hev:eval et er a b (.mk 10 o i nm at_ [x,y])=bin2 et er o (some n,0,true) true (eval et er a b y):=by
       rw [eval,evals,evals,ex,hy]
       rfl
      rw [hev]
      have hs:bin2 et er o (some n,0,true) true (eval et er a b y)=if (o=11∧(n != 0)=false)∨(o=12∧(n != 0)=true) then(some (bit (n != 0)),0,true) else if (eval et er a b y).2.1≠0∨(eval et er a b y).2.2=false then(none,(eval et er a b y).2.1,(eval et er a b y).2.2) else if o=11∨o=12 then(some (bit (truth (eval et er a b y).1)),0,true) else((operate et er o (some n) (eval et er a b y).1).1,(operate et er o (some n) (eval et er a b y).1).2,true):=by
       unfold bin2
       rw [if_neg (by simp),if_neg (by simp)]
       rfl
      split
      ·rename_i h11
       have hz:(n != 0)=false:=by rw [h11.2];rfl
       rw [hs,if_pos (Or.inl ⟨h11.1,hz⟩),hz]
       refine zB9 (by omega) (by omega) ?_
       rw [hev,hs,if_pos (Or.inl ⟨h11.1,hz⟩),hz]
       rfl
      ·split
       ·rename_i _ h12
        have hz:(n != 0)=true:=by rw [bne_iff_ne];exact h12.2
        rw [hs,if_pos (Or.inr ⟨h12.1,hz⟩),hz]
        refine zB9 (by omega) (by omega) ?_
        rw [hev,hs,if_pos (Or.inr ⟨h12.1,hz⟩),hz]
        rfl
       ·rename_i h11 h12
        have hno:¬((o=11∧(n != 0)=false)∨(o=12∧(n != 0)=true)):=by
         rintro (⟨q1,q2⟩|⟨q1,q2⟩)
         ·exact h11 ⟨q1,by simpa using q2⟩
         ·exact h12 ⟨q1,by simpa using q2⟩
        split
        ·exact hev
        ·rename_i m hm
         have hym:const y=some m:=hm
         have ey:eval et er a b y=(some m,0,true):=zEV hl.2.1 hym
         split
         ·rename_i h1112
          have he:eval et er a b (.mk 10 o i nm at_ [x,y])=(some (bit (m != 0)),0,true):=by
           rw [hev,hs,if_neg hno,ey,if_neg (by simp),if_pos h1112]
           rfl
          rw [←hev,he]
          exact zB9 (zHA _).1 (zHA _).2 he
         ·rename_i h1112
          split
          ·rename_i r2 hr
           have he:eval et er a b (.mk 10 o i nm at_ [x,y])=(some r2,0,true):=by
            rw [hev,hs,if_neg hno,ey,if_neg (by simp),if_neg h1112]
            show((operate et er o (some n) (some m)).1,(operate et er o (some n) (some m)).2,true)=_
            rw [zJN ho0 (by omega) hb hr]
           rw [←hev,he]
           have:=zIZ hb hr
           exact zB9 this.1 this.2 he
          ·exact hev
  ·rfl
mutual
theorem zJ9:∀e:E,validE e=true→cov e=true→eval et er a b (fold e)=eval et er a b e
 | .mk k o i nm at_ l,hv,hc=>by
   have hvl:=(zF hv).1
   rw [fold,zSH]
   ·rw [eval,eval]
    by_cases hk:k=8∨k=9∨k=10
    ·rw [zG2 l hvl (zEZ hc hk)]
    ·have hn:l= []∨¬(k=0∨k=1∨k=3):=by
      by_cases h3:k=0∨k=1∨k=3
      ·left
       have h2:=(zF hv).2
       unfold okE at h2
       rcases h3 with rfl|rfl|rfl<;>simp at h2<;>simp_all
      ·exact .inr h3
     rcases hn with rfl|hn
     ·rw [folds]
     ·rw [cov] at hc
      rw [if_neg (by omega),if_neg (by omega),if_neg hk] at hc
      cases hc
   ·rw [validE,zAA l hvl,zAB,(zF hv).2]
    rfl
   ·exact zS7 hc (zE0 l)
theorem zG2:∀l:List E,validEs l=true→covs l=true→evals et er a b (folds l)=evals et er a b l
 | [],_,_=>by rw [folds]
 |e::r,hv,hc=>by
  rw [validEs,Bool.and_eq_true] at hv
  rw [covs,Bool.and_eq_true] at hc
  rw [folds,evals,evals,zJ9 e hv.1 hc.1,zFU e hc.1,hc.1,zG2 r hv.2 hc.2]
end
end
end Co
end Go.Proofs.YtcnmfcgmnkncaaaGreatDoor
namespace Go.Proofs.YtcnmfcgmnkncaaaGreatDoor
namespace Co
open Tr
theorem zA6 (g:G) (o a b p q:Int):(emit g o a b p q).locals=g.locals:=rfl
theorem zCY (g:G) (i:Nat):(patch g i).locals=g.locals:=rfl
theorem zGH (g:G) (s:ByteArray):(name g s).1.locals=g.locals:=by
 unfold name
 split<;>rfl
theorem zDP (g h:G):(shut g h).locals=h.locals:=rfl
set_option maxHeartbeats 4000000 in
mutual
theorem zGZ (cs:List C) (fs:List ByteArray):∀(g:G) (e:E),(gE cs fs g e).locals=g.locals
 |g,.mk k o i nm a l=>by
  have h:=zA5 cs fs g l
  have h11:=zJ5 cs fs g 19 0 l
  have h12:=zJ5 cs fs g 20 1 l
  rw [gE]
  repeat' split
  all_goals simp only [zA6,zGH,h,h11,h12]
theorem zA5 (cs:List C) (fs:List ByteArray):∀(g:G) (l:List E),(gEs cs fs g l).locals=g.locals
 |g,[]=>by rw [gEs]
 |g,e::r=>by rw [gEs,zA5 cs fs _ r,zGZ cs fs g e]
theorem zJ5 (cs:List C) (fs:List ByteArray):∀(g:G) (j v:Int) (l:List E),(gL cs fs g j v l).locals=g.locals
 |g,j,v,[]=>by rw [gL]
 |g,j,v,x::r=>by
  have h1:=zGZ cs fs g x
  have h2:=zA5 cs fs (emit (gE cs fs g x) j 0 0 1 0) r
  rw [gL]
  exact h2.trans h1
end
theorem zR3 {k:Int} {nm:ByteArray} {n:Nat} {b l:List S} (h:okS k nm n b.length l.length=true) (h3:k≠3):l= []∧(k≠4→b= []):=by
 unfold okS at h
 repeat' split at h
 all_goals first
  |(exact absurd ‹k=3› h3)
  |(simp at h;constructor<;>simp_all)
  |cases h
theorem zIF:Ck.lets []=0:=by rw [Ck.lets]
set_option maxHeartbeats 4000000 in
mutual
theorem zP2 (cs:List C) (fs:List ByteArray):∀(g:G) (s:S),validS s=true→(gS cs fs g s).locals=g.locals+Ck.letsS s
 |g,.mk k nm x b l,hv=>by
  rw [validS,Bool.and_eq_true,Bool.and_eq_true,Bool.and_eq_true] at hv
  have hb:∀h:G,(gSs cs fs h b).locals=h.locals+Ck.lets b:=fun h=>zA1 cs fs h b hv.1.2
  have hl:∀h:G,(gSs cs fs h l).locals=h.locals+Ck.lets l:=fun h=>zA1 cs fs h l hv.2
  have he:∀l:List E,(gEs cs fs g l).locals=g.locals:=fun l=>zA5 cs fs g l
  have hf:=zR3 hv.1.1.2
  rw [gS,Ck.letsS]
  by_cases h3:k=3
  ·have hz:(if k=0 then 1 else 0:Nat)=0:=if_neg (by omega)
   rw [hz,if_neg (by omega),if_neg (by omega),if_neg (by omega),if_pos h3]
   split
   ·rename_i hle
    have:l= []:=List.isEmpty_iff.1 hle
    subst this
    simp only [zCY,zDP,hb,zA6,he,zIF]
    omega
   ·simp only [zCY,zDP,hl,hb,zA6,he]
    omega
  ·obtain⟨rfl,h4⟩:=hf h3
   by_cases hk4:k=4
   ·rw [if_neg (by omega),if_neg (by omega),if_neg (by omega),if_neg (by omega),if_pos hk4,if_neg (by omega)]
    simp only [zCY,zDP,hb,zA6,he,zIF]
    omega
   ·have:=h4 hk4
    subst this
    rw [zIF]
    by_cases h0:k=0
    ·rw [if_pos h0,if_pos h0]
     simp only [zA6,he]
    ·rw [if_neg h0,if_neg h0,if_neg h3,if_neg hk4]
     repeat' split
     all_goals simp only [zA6,zGH,he]
     all_goals omega
theorem zA1 (cs:List C) (fs:List ByteArray):∀(g:G) (l:List S),validSs l=true→(gSs cs fs g l).locals=g.locals+Ck.lets l
 |g,[],_=>by rw [gSs,Ck.lets];rfl
 |g,s::r,hv=>by
  rw [validSs,Bool.and_eq_true] at hv
  rw [gSs,zA1 cs fs _ r hv.2,zP2 cs fs g s hv.1,Ck.lets]
  omega
end
abbrev Ins:=Int × Int × Int
def named (o:Int):Bool:=decide (o=6∨o=8∨o=21∨o=24)
def use:List Ins→Nat→Option Nat
 | [],u=>some u
 |x::r,u=>if named x.1 then(if (u:Int)<x.2.1 then none else use r (if x.2.1=(u:Int) then u+1 else u)) else use r u
theorem zF3:∀(c d:List Ins) (u:Nat),use (c++d) u=(use c u).bind (use d)
 | [],d,u=>rfl
 |x::r,d,u=>by
  rw [List.cons_append,use,use]
  split
  ·split
   ·rfl
   ·exact zF3 r d _
  ·exact zF3 r d u
structure Inv (g:G):Prop where
 use:use g.code 0=some g.names.length
 nodup:g.names.Nodup
def Ext (g h:G):Prop:=∃t,h.code.map Prod.fst=g.code.map Prod.fst++t
theorem Ext.refl (g:G):Ext g g:=⟨[],(List.append_nil _).symm⟩
theorem Ext.trans {g h k:G} (h1:Ext g h) (h2:Ext h k):Ext g k:=by
 obtain⟨t,e1⟩:=h1
 obtain⟨u,e2⟩:=h2
 exact⟨t++u,by rw [e2,e1,List.append_assoc]⟩
theorem Ext.emit (g:G) (o a b p q:Int):Ext g (emit g o a b p q):=⟨[o],by show(g.code++ [(o,a,b)]).map Prod.fst=_;rw [List.map_append];rfl⟩
theorem zES:∀(l:List Ins) (i:Nat) (f:Ins→Ins),(∀x,(f x).1=x.1)→(l.modify i f).map Prod.fst=l.map Prod.fst
 | [],i,f,h=>by cases i<;>rfl
 |x::r,0,f,h=>by show(f x::r).map _=_;rw [List.map_cons,List.map_cons,h x]
 |x::r,i+1,f,h=>by
  show(x::r.modify i f).map _=_
  rw [List.map_cons,List.map_cons,zES r i f h]
theorem Ext.patch (g:G) (i:Nat):Ext g (patch g i):=⟨[],by rw [List.append_nil];exact zES _ _ _ (fun _=>rfl)⟩
theorem Ext.name (g:G) (s:ByteArray):Ext g (name g s).1:=by
 unfold Co.name
 split
 ·exact .refl g
 ·exact⟨[],(List.append_nil _).symm⟩
theorem zEO:∀(l:List Ins) (i:Nat) (f:Ins→Ins),(∀x,(f x).1=x.1)→(∀x,l[i]? =some x→named x.1=false)→∀u,use (l.modify i f) u=use l u
 | [],i,f,h,hn,u=>by cases i<;>rfl
 |x::r,0,f,h,hn,u=>by
  show use (f x::r) u=_
  have h1:named x.1=false:=hn x rfl
  rw [use,use,h x,h1]
  rfl
 |x::r,i+1,f,h,hn,u=>by
  show use (x::r.modify i f) u=_
  rw [use,use]
  split
  ·split
   ·rfl
   ·exact zEO r i f h (fun y hy=>hn y hy) _
  ·exact zEO r i f h (fun y hy=>hn y hy) _
theorem Inv.emit {g:G} (h:Inv g) {o:Int} (ho:named o=false) (a b p q:Int):Inv (emit g o a b p q):=by
 refine⟨?_,h.nodup⟩
 show Co.use (g.code++ [(o,a,b)]) 0=some g.names.length
 rw [zF3,h.use]
 show Co.use [(o,a,b)] _=_
 rw [Co.use,ho]
 rfl
theorem Inv.patch {g:G} (h:Inv g) {i:Nat} (hn:∀x,g.code[i]? =some x→named x.1=false):Inv (patch g i):=
 ⟨(zEO g.code i (fun x=>(x.1,(g.code.length:Int),x.2.2)) (fun _=>rfl) hn 0).trans h.use,h.nodup⟩
theorem Inv.named {g:G} (h:Inv g) (s:ByteArray) {o:Int} (ho:Co.named o=true) (b p q:Int):Inv (Co.emit (name g s).1 o (name g s).2 b p q):=by
 unfold name
 split
 ·rename_i i hi
  have hlt:=(List.findIdx?_eq_some_iff_getElem.1 hi).1
  refine⟨?_,h.nodup⟩
  show Co.use (g.code++ [(o,(i:Int),b)]) 0=some g.names.length
  rw [zF3,h.use]
  show Co.use [(o,(i:Int),b)] _=_
  rw [Co.use,ho,if_pos rfl]
  dsimp only
  rw [if_neg (by omega),if_neg (by omega)]
  rfl
 ·rename_i hi
  refine⟨?_,?_⟩
  ·show Co.use (g.code++ [(o,(g.names.length:Int),b)]) 0=some (g.names++ [s]).length
   rw [zF3,h.use]
   show Co.use [(o,(g.names.length:Int),b)] _=_
   rw [Co.use,ho,if_pos rfl]
   dsimp only
   rw [if_neg (by omega),if_pos rfl,List.length_append]
   rfl
  ·show(g.names++ [s]).Nodup
   rw [List.nodup_append]
   refine⟨h.nodup,by simp,fun x hx y hy=>?_⟩
   rw [List.mem_singleton] at hy
   subst hy
   rw [List.findIdx?_eq_none_iff] at hi
   have:=hi x hx
   intro e
   simp [e] at this
def run (et er:Nat) (a b:Val) (c:List Ins):Nat→Nat→List Val→Res
 |0,_,_=>(none,0,false)
 |f+1,pc,st=>
  match c[pc]? with
  |none=>(none,0,false)
  |some x=>
   if x.1=0 then run et er a b c f (pc+1) (some x.2.1::st)
   else if x.1=1 then run et er a b c f (pc+1) (none::st)
   else if x.1=3 then run et er a b c f (pc+1) ((if x.2.1=1 then b else a)::st)
   else if x.1=18 then(if x.2.1<0 then(none,0,false) else run et er a b c f x.2.1.toNat st)
   else match st with
    | []=>(none,0,false)
    |v::r=>
     if x.1=14 then(match v with
      |some n=>run et er a b c f (pc+1) (some (wrap (-n))::r)
      |none=>(none,et,true))
     else if x.1=15 then run et er a b c f (pc+1) (some (bit (!truth v))::r)
     else if x.1=17 then run et er a b c f (pc+1) (some (bit (truth v))::r)
     else if x.1=19∨x.1=20 then(if truth v=decide (x.1=20) then(if x.2.1<0 then(none,0,false) else run et er a b c f x.2.1.toNat r) else run et er a b c f (pc+1) r)
     else if x.1=22 then(v,0,true)
     else if x.1=16 then(match r with
      | []=>(none,0,false)
      |u::r2=>if (operate et er x.2.1 u v).2=0 then run et er a b c f (pc+1) ((operate et er x.2.1 u v).1::r2) else(none,(operate et er x.2.1 u v).2,true))
     else(none,0,false)
def Goes (et er:Nat) (a b:Val) (c:List Ins) (k pc:Nat) (st:List Val) (pc':Nat) (st':List Val):Prop:=∀f,run et er a b c (f+k) pc st=run et er a b c f pc' st'
theorem Goes.trans {et er:Nat} {a b:Val} {c:List Ins} {k1 k2 p1 p2 p3:Nat} {s1 s2 s3:List Val} (h1:Goes et er a b c k1 p1 s1 p2 s2) (h2:Goes et er a b c k2 p2 s2 p3 s3):Goes et er a b c (k2+k1) p1 s1 p3 s3:=fun f=>by
 rw [←Nat.add_assoc,h1,h2]
theorem Goes.push {et er:Nat} {a b:Val} {c:List Ins} {pc:Nat} {n y:Int} (st:List Val) (h:c[pc]? =some (0,n,y)):Goes et er a b c 1 pc st (pc+1) (some n::st):=fun f=>by
 show run et er a b c (f+1) pc st=_
 rw [run,h]
 rfl
end Co
end Go.Proofs.YtcnmfcgmnkncaaaGreatDoor
