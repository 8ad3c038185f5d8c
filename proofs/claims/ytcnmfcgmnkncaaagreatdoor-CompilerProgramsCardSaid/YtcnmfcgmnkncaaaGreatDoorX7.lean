/-
  CoFoldS, CoReg, CoRowP, CoEval, CoSafe, CoShape, CoNames, CoRun, CoExec.
-/
import Derived.Test.YtcnmfcgmnkncaaaGreatDoorX6
import Derived.OwnWalk
import Derived.Deep.LoopGhost
import Derived.Deep.DeepCutAuto
set_option maxRecDepth 100000
set_option maxHeartbeats 40000000
open Go.Proofs.Tryz
namespace Go.Proofs.YtcnmfcgmnkncaaaGreatDoor
namespace Cw
open Go.RowKit Go.Maps Pw
def FP (x:Tr.E) (w:World) (r:Ending) (w':World):Prop:=∃a',r= .returned (zK x a')/\BdE x/\SlE (hide (upL w.heap.size []) w') a' x.args/\Below w.heap.size w w'
def RP (e:Tr.E) (n:Int) (a:Value) (w:World) (r:Ending) (w':World):Prop:=∃a',r= .returned (zK (Co.repl e n) a')/\Below w.heap.size w w'/\((Co.repl e n=e/\a'=a)\/SlE (hide (upL w.heap.size []) w') a' (Co.repl e n).args)
def Q62p (n:Int):Prop:= -2305843009213693952<=n/\n<=2305843009213693951
theorem i64_of {n:Int} (h:Q62p n):Tr.I64 n:=⟨by have:=h.1;omega,by have:=h.2;omega⟩
theorem zNK {n:Int} (h:Q62p n):BdE (Co.num n):=⟨zBS (n:=0) (by decide) (by decide),zBS (n:=0) (by decide) (by decide),i64_of h,zGZ⟩
theorem zVK {e:Tr.E} {n:Int} (he:BdE e) (h:Q62p n):BdE (Co.repl e n):=by
 rcases Co.zCK e n with h2|⟨_,h2⟩|⟨_,_,h2⟩
 ·rw [h2];exact he
 ·rw [h2];exact zNK h
 ·rw [h2];exact⟨zBS (n:=8) (by decide) (by decide),zBS (n:=0) (by decide) (by decide),zBS (n:=0) (by decide) (by decide),zGZ⟩
theorem zC1 (b:Bool):Q62p (Co.bit b):=by cases b<;>exact ⟨by decide,by decide⟩
theorem zHF:∀ {l:List Tr.E} {j:Nat} {e:Tr.E},l[j]? =some e->Co.wE e<=Co.wEs l
 | [],j,e,h=>by simp at h
 |x::r,0,e,h=>by cases h;rw [Co.wEs];omega
 |x::r,j+1,e,h=>by rw [Co.wEs];have:=zHF (l:=r) (j:=j) (by simpa using h);omega
theorem zUG {e:Tr.E}:e.args.length<=Co.wE e:=by cases e;rw [Co.wE];show List.length _<=_;dsimp only [Tr.E.args];omega
theorem zP4 {e:Tr.E}:Co.wEs e.args<=Co.wE e:=by cases e;rw [Co.wE];dsimp only [Tr.E.args];omega
theorem zH:∀ {l:List Tr.E} {j:Nat} {e:Tr.E},Tr.zT l=true->l[j]? =some e->Tr.zE e=true
 | [],j,e,_,h=>by simp at h
 |x::r,0,e,hv,h=>by cases h;rw [Tr.zT,kW] at hv;exact hv.1
 |x::r,j+1,e,hv,h=>by rw [Tr.zT,kW] at hv;exact zH (l:=r) (j:=j) hv.2 (by simpa using h)
theorem zJK:∀(l:List Tr.E) (x:Tr.E),Co.zG (l++ [x])=Co.zG l++ [Co.fold x]
 | [],x=>by rw [List.nil_append,Co.zG,Co.zG,Co.zG];rfl
 |y::r,x=>by rw [List.cons_append,Co.zG,Co.zG,zJK r x];rfl
theorem zE8 {α:Type} {l:List α} {j:Nat} {x:α} (h:l[j]? =some x):l.take (j+1)=l.take j++ [x]:=by rw [List.take_add_one,h];rfl
theorem zEJ {l:List Tr.E} {j:Nat} {x:Tr.E} (h:l[j]? =some x):Co.zG (l.take (j+1))=Co.zG (l.take j)++ [Co.fold x]:=by rw [zE8 h,zJK]
theorem RowOk.made {α:Type} {f:α->List Value} {k:Nat} {t:TypeId} {ok:World->α->Prop} {B:Nat} {l:List Nat} {W:World} {g n:Nat} (h:W.ownsRow B t k (.slice (some ⟨g,0,none⟩) 0 n) 0 []) (hn:∀q∈l,q<g):RowOk f k t ok B l W (.slice (some ⟨g,0,none⟩) 0 n) []:=
 ⟨h,(fun _ hx=>by cases hx),fun q hq e=>by injection e with e;have:=hn q hq;have e2:g=q:=e;omega⟩
theorem My.newE {w W W1:World} {bs:List Bk} {v:Value} {tr:List ET} {y:Tr.E} {a':Value} (h:My w bs [] W) (hr:RowOk zAK 6 37 zBD w.heap.size (bs.map Prod.fst) W v tr) (hb:Below W.heap.size W W1) (hbd:BdE y) (hs:SlE (hide (upL W.heap.size []) W1) a' y.args) {W2:World} (hW:W2=W1.alloc (.cells #[.int .i64 y.kind,.int .i64 y.op,.int .i64 y.int,.string y.name,.bool y.at_,a'] 37)):
 My w bs [] W2/\RowOk zAK 6 37 zBD w.heap.size (bs.map Prod.fst) W2 v tr/\SrcAt W2 zAK (.slice (some ⟨W1.heap.size,0,none⟩) 1 1) [(y,a')]/\(∀x∈ [(y,a')],zBD (hide (upL w.heap.size (bs.map Prod.fst++ownL v)) W2) x)/\(∀a∈ [(y,a')],∀u∈zAK a,u.oneCell'=true)/\w.heap.size<=W2.heap.size/\∀q∈bs.map Prod.fst,q<W2.heap.size:=by
 subst hW;have hbx:=zD W1 (.cells #[.int .i64 y.kind,.int .i64 y.op,.int .i64 y.int,.string y.name,.bool y.at_,a'] 37);have h2:=(h.below hb).below hbx;have hrd:zBD (hide (upL w.heap.size (bs.map Prod.fst++ownL v)) (W1.alloc (.cells #[.int .i64 y.kind,.int .i64 y.op,.int .i64 y.int,.string y.name,.bool y.at_,a'] 37))) (y,a'):=by
  refine⟨hbd,hs.inc (zBQ (row:=none) (zCH hbx none) (fun _ e=>by cases e) (fun q _ hq=> .inl ?_))⟩;rcases hq with hq|hq
  ·exact kP hq h.le
  ·rcases kU.1 hq with hq|hq
   ·exact(h.lts hq).2.1
   ·exact(hr.ge (zAL.1 hq)).2
 refine⟨h2,(hr.below zR hb).below zR hbx,SrcAt.of_blk (f:=zAK) (x:=(y,a')) (zQ2 rfl) rfl,fun x hx=>by rw [kT.1 hx];exact hrd,fun a ha=>?_,h2.le,fun q hq=>(h2.lts hq).2.1⟩;exact zGG (w:=hide (upL w.heap.size (bs.map Prod.fst++ownL v)) (W1.alloc (.cells #[.int .i64 y.kind,.int .i64 y.op,.int .i64 y.int,.string y.name,.bool y.at_,a'] 37))) (fun x hx=>by rw [kT.1 hx];exact hrd) a ha
theorem My.pushed {w W W':World} {bs:List Bk} {v:Value} {tr:List ET} (h:My w bs [] W) (hr:RowOk zAK 6 37 zBD w.heap.size (bs.map Prod.fst) W v tr) (hg:W.grownBy W' v.ownBlock):My w bs [] W':=
 h.push hg (fun q hq=>⟨(hr.ge hq).1,fun hm=>hr.nin q hm hq⟩)
theorem My.repl {w W W':World} {bs:List Bk} {e:Tr.E} {n:Int} {a:Value} {r:Ending} (h:My w bs [fun U=>SlE U a e.args] W) (hp:RP e n a W r W'):∃a',r= .returned (zK (Co.repl e n) a')/\Hid (My w bs [fun U=>SlE U a' (Co.repl e n).args] W'):=by
 obtain⟨a',rfl,hb,hc⟩:=hp;refine⟨a',rfl,zh ?_⟩;rcases hc with ⟨e1,rfl⟩|hs
 ·rw [e1];exact h.below hb
 ·exact(h.add (r:=fun U=>SlE U a' (Co.repl e n).args) hb (fun _ _ hi hs=>SlE.inc hs hi) hs).few (fun r hr=>by rw [kT.1 hr];exact kH ..)
theorem My.rp {w W:World} {bs:List Bk} {E X:Tr.E} {n:Int} {a:Value} {f:FuncId} {args:Array Value} (hk:Calls prog f args W (RP E n a W)) (C:My w bs [fun U=>SlE U a E.args] W) (hbd:BdE E) (hq:Q62p n) (hx:X=Co.repl E n) {Q:Ending->World->Prop}
 (h:∀(p:Option Addr) (N c:Nat) (W':World),Hid (My w bs [fun U=>SlE U (.slice p N c) X.args] W')->Hid (BdE X)->Q (.returned (.agg #[.int .i64 X.kind,.int .i64 X.op,.int .i64 X.int,.string X.name,.bool X.at_,.slice p N c])) W'):Calls prog f args W Q:=
 hk.mono fun e W' hp=>by
  obtain⟨a9,rfl,C9⟩:=My.repl C hp;obtain⟨p,c,rfl,_⟩:=(C9.rd 0 rfl).form;have hb:=zVK hbd hq;rw [<-hx] at C9 hb |-;exact h p _ c W' C9 (zh hb)
abbrev X6 (b:Nat) (v0 v1 v2 v3 v4 v5:Value) (W:World):Prop:=W.cell? ⟨b,0,none⟩=some v0/\W.cell? ⟨b,1,none⟩=some v1/\W.cell? ⟨b,2,none⟩=some v2/\W.cell? ⟨b,3,none⟩=some v3/\W.cell? ⟨b,4,none⟩=some v4/\W.cell? ⟨b,5,none⟩=some v5
theorem x6_of {W:World} {b:Nat} {t:TypeId} {v0 v1 v2 v3 v4 v5:Value} (h:W.heap[b]? =some (.cells #[v0,v1,v2,v3,v4,v5] t (0,0))):X6 b v0 v1 v2 v3 v4 v5 W:=⟨zB h (j:=0) rfl,zB h (j:=1) rfl,zB h (j:=2) rfl,zB h (j:=3) rfl,zB h (j:=4) rfl,zB h (j:=5) rfl⟩
theorem My.x6 {w W:World} {bs:List Bk} {os:List (World->Prop)} {R E:Nat} {t:TypeId} {y0 y1 y2 y3 y4 y5 v0 v1 v2 v3 v4 v5 u0 u1 u2 u3 u4 u5:Value} (C:My w ((R,#[y0,y1,y2,y3,y4,y5],37)::(E,#[v0,v1,v2,v3,v4,v5],t)::bs) os W):X6 E v0 v1 v2 v3 v4 v5 (set6 W R u0 u1 u2 u3 u4 u5):=
 x6_of (Mz.b (C.set 0 rfl (zJ4 W R u0 u1 u2 u3 u4 u5) (zG0 _ _ _ _ _ _ (C.b 0 rfl))) 1 rfl)
theorem My.retE {w W:World} {bs:List Bk} {x:Tr.E} {a:Value} {R:Nat} {y0 y1 y2 y3 y4 y5:Value} (h:My w bs [fun U=>SlE U a x.args] W) (i:Nat) (hi:bs[i]? =some (R,#[y0,y1,y2,y3,y4,y5],37)) {fn:Func} {q:Tmp} {A:Act} (hr:fn.results= #[.cell q 37]) (hq:A.tmps.getD q undef= .pointer (some ⟨R,0,none⟩)) (hd:A.defers= []) (hx:BdE x):
 bodyPost prog fn (FP x w) .ret A (set6 W R (.int .i64 x.kind) (.int .i64 x.op) (.int .i64 x.int) (.string x.name) (.bool x.at_) a):=by
 have h2:=h.set i hi (zJ4 W R (.int .i64 x.kind) (.int .i64 x.op) (.int .i64 x.int) (.string x.name) (.bool x.at_) a) (zG0 _ _ _ _ _ _ (h.b i hi));have hil:i<bs.length:=(kJ.1 hi).1;have hS:=h2.b i (X:=R) (by rw [List.getElem?_set,kD rfl,kD hil]);exact bodyPost_ret (v:=zK x a) (results_cell_row hr _ _ R _ _ _ _ hq hS underlying37 rfl (by kernel_rfl)) hd ⟨a,rfl,hx,My.seen h2 0 rfl,My.fin h2⟩
theorem My.retP {w W:World} {bs:List Bk} {os:List (World->Prop)} {x:Tr.E} {a:Value} {R:Nat} {y0 y1 y2 y3 y4 y5:Value} (h:My w bs os W) (i:Nat) (hi:bs[i]? =some (R,#[y0,y1,y2,y3,y4,y5],37)) {fn:Func} {q:Tmp} {A:Act} (hr:fn.results= #[.cell q 37]) (hq:A.tmps.getD q undef= .pointer (some ⟨R,0,none⟩)) (hd:A.defers= []) {Post:Ending->World->Prop}
 (hp:∀W',My w (bs.set i (R,#[.int .i64 x.kind,.int .i64 x.op,.int .i64 x.int,.string x.name,.bool x.at_,a],37)) os W'->Post (.returned (zK x a)) W'):
 bodyPost prog fn Post .ret A (set6 W R (.int .i64 x.kind) (.int .i64 x.op) (.int .i64 x.int) (.string x.name) (.bool x.at_) a):=by
 have h2:=h.set i hi (zJ4 W R (.int .i64 x.kind) (.int .i64 x.op) (.int .i64 x.int) (.string x.name) (.bool x.at_) a) (zG0 _ _ _ _ _ _ (h.b i hi));have hil:i<bs.length:=(kJ.1 hi).1;have hS:=h2.b i (X:=R) (by rw [List.getElem?_set,kD rfl,kD hil]);exact bodyPost_ret (v:=zK x a) (results_cell_row hr _ _ R _ _ _ _ hq hS underlying37 rfl (by kernel_rfl)) hd (hp _ h2)
theorem My.retPb {w W:World} {bs:List Bk} {os:List (World->Prop)} {x:Tr.E} {a:Value} {R:Nat} {y0 y1 y2 y3 y4 y5:Value} {ys:Array Value} {ty2:TypeId} (h:My w bs os W) (i:Nat) (hi:bs[i]? =some (R,#[y0,y1,y2,y3,y4,y5],37)) {fn:Func} {q:Tmp} {A:Act} (hr:fn.results= #[.cell q 37]) (hq:A.tmps.getD q undef= .pointer (some ⟨R,0,none⟩)) (hd:A.defers= []) {Post:Ending->World->Prop}
 (hp:∀W',My w ((W.heap.size,ys,ty2)::bs.set i (R,#[.int .i64 x.kind,.int .i64 x.op,.int .i64 x.int,.string x.name,.bool x.at_,a],37)) os W'->Post (.returned (zK x a)) W'):
 bodyPost prog fn Post .ret A ((set6 W R (.int .i64 x.kind) (.int .i64 x.op) (.int .i64 x.int) (.string x.name) (.bool x.at_) a).alloc (.cells ys ty2)):=by
 have h2:=h.set i hi (zJ4 W R (.int .i64 x.kind) (.int .i64 x.op) (.int .i64 x.int) (.string x.name) (.bool x.at_) a) (zG0 _ _ _ _ _ _ (h.b i hi));have h3:=h2.box (X:=W.heap.size) (by simp [set6]) ys ty2;have hil:i<bs.length:=(kJ.1 hi).1;have hS:=h3.b (i+1) (X:=R) (by rw [List.getElem?_cons_succ,List.getElem?_set,kD rfl,kD hil]);exact bodyPost_ret (v:=zK x a) (results_cell_row hr _ _ R _ _ _ _ hq hS underlying37 rfl (by kernel_rfl)) hd (hp _ h3)
theorem zCG (e:Tr.E) (n:Int) (a:Value) (w:World) (hn:Q62p n) (hf:∃p N c,a= .slice p N c):Calls prog 66 #[zK e a,.int .i64 n] w (RP e n a w):=by
 obtain⟨k,o,i,nm,at_,l⟩:=e;obtain⟨p,N,c,rfl⟩:=hf;have HQ:=zh hn;unfold zK;simp only [Tr.E.kind,Tr.E.op,Tr.E.int,Tr.E.name,Tr.E.at_];have C0:=zh (My.start w);have hw0:=HQ.1;have hw1:=HQ.2;clear hn;obtain⟨E,w1,HX1,HW1,hx1,C1⟩:=C0.boxE #[.int .i64 k,.int .i64 o,.int .i64 i,.string nm,.bool at_,.slice p N c] 37;obtain⟨R,w2,HX2,HW2,hx2,C2⟩:=C1.boxE #[.int .i64 0,.int .i64 0,.int .i64 0,.string ⟨#[]⟩,.bool false,.slice none 0 0] 37;have HY2:Hid (R=E+1):=zh (by rw [HX2.out,HW1.out,HX1.out];simp);go_in;go_upto_region 1 with fail;rw [<-HX1.out,<-HW1.out,<-HY2.out,<-HW2.out];clear HX1 HW1 C0 HY2 HX2 HW2 C1;by_cases hge:0<=n
 ·have q0:=zF (C2.b 0 rfl);have HE:Hid (Co.repl (.mk k o i nm at_ l) n=Co.num n):=zh (kD hge);go_wp2;refine My.retP C2 (x:=Co.num n) (a:= .slice none 0 0) 0 rfl results66 rfl rfl (fun W hW=>⟨_,by rw [HE.out],My.fin hW,.inr ?_⟩);rw [HE.out];exact .nil none 0
 ·by_cases hmin:n= -2305843009213693952
  ·have q1:=zF (C2.b 1 rfl);have q0:=zF (C2.b 0 rfl);have HE:Hid (Co.repl (.mk k o i nm at_ l) n= .mk k o i nm at_ l):=zh (by unfold Co.repl;rw [kC hge,kD hmin]);have hmb:(n == -2305843009213693952)=true:=kX.2 hmin;clear hw0 hw1 hmin;go_wp2;exact My.retP C2 (x:= .mk k o i nm at_ l) (a:= .slice p N c) 0 rfl results66 rfl rfl (fun W hW=>⟨_,by rw [HE.out],My.fin hW,.inl ⟨HE,rfl⟩⟩)
  ·have HE:Hid (Co.repl (.mk k o i nm at_ l) n= .mk 8 0 0 ⟨#[]⟩ false [Co.num (-n)]):=zh (by unfold Co.repl;rw [kC hge,kC hmin]);have hmb:(n == -2305843009213693952)=false:=kA.2 hmin;have HNM:=zh (zNK (n:= -n) ⟨by omega,by omega⟩);have hwn:wrap64 (-n)= -n:=by unfold wrap64;omega
   clear hmin;go_upto_region 5 with fail;have q0:=zF (C2.b 0 rfl);go_wp2_with fail
   try rw [hwn]
   refine My.retPb C2 (x:= .mk 8 0 0 ⟨#[]⟩ false [Co.num (-n)]) (a:= .slice (some ⟨w2.heap.size,0,none⟩) 1 1) 0 rfl results66 rfl rfl (fun W hW=>⟨_,by rw [HE.out],My.fin hW,.inr ?_⟩);rw [HE.out];have hf:=hW.fold (r:=fun U=>SlE U (.slice (some ⟨w2.heap.size,0,none⟩) 1 1) [Co.num (-n)]) (fun _ _ hi hs=>SlE.inc hs hi) (fun U hb _=>zFC (e:=Co.num (-n)) (a:= .slice none 0 0) hb HNM (.nil none 0));exact My.seen hf 0 rfl
theorem zB2 (e:Tr.E) (n:Int) (a:Value) (w:World) (hn:Q62p n) (hf:∃p N c,a= .slice p N c):Calls prog 70 #[.int .i64 n,zK e a] w (RP e n a w):=by
 obtain⟨k,o,i,nm,at_,l⟩:=e;obtain⟨p,N,c,rfl⟩:=hf;have HQ:=zh hn;unfold zK;simp only [Tr.E.kind,Tr.E.op,Tr.E.int,Tr.E.name,Tr.E.at_];have C0:=zh (My.start w);have hw0:=HQ.1;have hw1:=HQ.2;clear hn;obtain⟨E,w3,HX3,HW3,hx3,C3⟩:=C0.boxE #[.int .i64 k,.int .i64 o,.int .i64 i,.string nm,.bool at_,.slice p N c] 37;obtain⟨R,w4,HX4,HW4,hx4,C4⟩:=C3.boxE #[.int .i64 0,.int .i64 0,.int .i64 0,.string ⟨#[]⟩,.bool false,.slice none 0 0] 37;have HY4:Hid (R=E+1):=zh (by rw [HX4.out,HW3.out,HX3.out];simp);go_in;go_upto_region 1 with fail;rw [<-HX3.out,<-HW3.out,<-HY4.out,<-HW4.out];clear HX3 HW3 C0 HY4 HX4 HW4 C3;by_cases hge:0<=n
 ·have q0:=zF (C4.b 0 rfl);have HE:Hid (Co.repl (.mk k o i nm at_ l) n=Co.num n):=zh (kD hge);go_wp2;refine My.retP C4 (x:=Co.num n) (a:= .slice none 0 0) 0 rfl results70 rfl rfl (fun W hW=>⟨_,by rw [HE.out],My.fin hW,.inr ?_⟩);rw [HE.out];exact .nil none 0
 ·by_cases hmin:n= -2305843009213693952
  ·have q1:=zF (C4.b 1 rfl);have q0:=zF (C4.b 0 rfl);have HE:Hid (Co.repl (.mk k o i nm at_ l) n= .mk k o i nm at_ l):=zh (by unfold Co.repl;rw [kC hge,kD hmin]);have hmb:(n == -2305843009213693952)=true:=kX.2 hmin;clear hw0 hw1 hmin;go_wp2;exact My.retP C4 (x:= .mk k o i nm at_ l) (a:= .slice p N c) 0 rfl results70 rfl rfl (fun W hW=>⟨_,by rw [HE.out],My.fin hW,.inl ⟨HE,rfl⟩⟩)
  ·have HE:Hid (Co.repl (.mk k o i nm at_ l) n= .mk 8 0 0 ⟨#[]⟩ false [Co.num (-n)]):=zh (by unfold Co.repl;rw [kC hge,kC hmin]);have hmb:(n == -2305843009213693952)=false:=kA.2 hmin;have HNM:=zh (zNK (n:= -n) ⟨by omega,by omega⟩);have hwn:wrap64 (-n)= -n:=by unfold wrap64;omega
   clear hmin;go_upto_region 5 with fail;have q0:=zF (C4.b 0 rfl);go_wp2_with fail
   try rw [hwn]
   refine My.retPb C4 (x:= .mk 8 0 0 ⟨#[]⟩ false [Co.num (-n)]) (a:= .slice (some ⟨w4.heap.size,0,none⟩) 1 1) 0 rfl results70 rfl rfl (fun W hW=>⟨_,by rw [HE.out],My.fin hW,.inr ?_⟩);rw [HE.out];have hf:=hW.fold (r:=fun U=>SlE U (.slice (some ⟨w4.heap.size,0,none⟩) 1 1) [Co.num (-n)]) (fun _ _ hi hs=>SlE.inc hs hi) (fun U hb _=>zFC (e:=Co.num (-n)) (a:= .slice none 0 0) hb HNM (.nil none 0));exact My.seen hf 0 rfl
end Cw
end Go.Proofs.YtcnmfcgmnkncaaaGreatDoor
namespace Go.Proofs.YtcnmfcgmnkncaaaGreatDoor
namespace Cw
section
variable {P:Program} {ops:Array Oper} {Q:Exit->Act->World->Prop} {md:Region.Mode} {S:World->Prop} {fuel:Nat} {listed:Array Bool} {a:Act} {w:World} {x1:Op} {x2:TypeId} {x3:String} {x4:Array Edge} {x5:Option (Nat × Bool)} {y1:Op} {y2:TypeId} {y3:String} {y4:Array Edge} {y5:Option (Nat × Bool)}
theorem rT (i:Nat) (d:Option Nat) {v:Value} (h:wpAnyH P md ops Q S fuel (listed.setIfInBounds i true) (a.put d v) w)
 (hi:ops[i]? =some ⟨d,x1,x2,x3,x4,x5⟩:=by rfl) (hw:Region.wanted ⟨d,x1,x2,x3,x4,x5⟩ (yielded ops a.tmps)=true:=by rfl)
 (hv:∀w,S w->(execOp a.eval ⟨d,x1,x2,x3,x4,x5⟩).run P w= .ok (.value v) w:=by intro w hSw;(try dsimp only at hSw);go_simp;(try with_reducible rfl))
 (hs:Region.noSelect ops=true:=by kernel_rfl) (hf:Region.free md ops listed i=true:=by kernel_rfl) (hr:(Region.ready md ops listed).contains i=true:=by kernel_rfl)
 (hQ:∀c a w,Q (.panic c) (a.put d v) w->Q (.panic c) a w:=by exact fun _ _ _ h=>h) (hS:S w:=by first|trivial|assumption):wpAnyH P md ops Q S (fuel+1) listed a w:=
 wpAnyH_take hi hs hf hr hQ (Or.inl ⟨hw,hv⟩) hS h
theorem q0 {α:Type} (l:List α) (i:Nat) (x:α):l.toArray.setIfInBounds i x=(l.set i x).toArray:=List.setIfInBounds_toArray ..
theorem q1 {α:Type} (x y:α) (l:List α):(x::l).set 0 y=y::l:=List.set_cons_zero ..
theorem q2 {α:Type} (x y:α) (l:List α) (i:Nat):(x::l).set (i+1) y=x::l.set i y:=List.set_cons_succ ..
theorem rU (i:Nat) (d:Option Nat) {v:Value} {a':Act} (h:wpAnyH P md ops Q S fuel (listed.setIfInBounds i true) a' w)
 (hi:ops[i]? =some ⟨d,x1,x2,x3,x4,x5⟩:=by rfl) (hw:Region.wanted ⟨d,x1,x2,x3,x4,x5⟩ (yielded ops a.tmps)=true:=by rfl)
 (hv:∀w,S w->(execOp a.eval ⟨d,x1,x2,x3,x4,x5⟩).run P w= .ok (.value v) w:=by intro w hSw;(try dsimp only at hSw);go_simp;(try with_reducible rfl))
 (ha:a.put d v=a':=by simp only [Act.put,q0,q1,q2];rfl)
 (hs:Region.noSelect ops=true:=by kernel_rfl) (hf:Region.free md ops listed i=true:=by kernel_rfl) (hr:(Region.ready md ops listed).contains i=true:=by kernel_rfl)
 (hQ:∀c a w,Q (.panic c) (a.put d v) w->Q (.panic c) a w:=by exact fun _ _ _ h=>h) (hS:S w:=by first|trivial|assumption):wpAnyH P md ops Q S (fuel+1) listed a w:=by
 subst ha;exact rT i d h hi hw hv hs hf hr hQ hS
theorem rK (i:Nat) (d:Option Nat) (h:wpAnyH P md ops Q S fuel (listed.setIfInBounds i true) (a.put d undef) w)
 (hi:ops[i]? =some ⟨d,x1,x2,x3,x4,x5⟩:=by rfl) (hw:Region.wanted ⟨d,x1,x2,x3,x4,x5⟩ (yielded ops a.tmps)=false:=by rfl)
 (hs:Region.noSelect ops=true:=by kernel_rfl) (hf:Region.free md ops listed i=true:=by kernel_rfl) (hr:(Region.ready md ops listed).contains i=true:=by kernel_rfl)
 (hQ:∀c a w,Q (.panic c) (a.put d undef) w->Q (.panic c) a w:=by exact fun _ _ _ h=>h) (hS:S w:=by first|trivial|assumption):wpAnyH P md ops Q S (fuel+1) listed a w:=
 wpAnyH_take (v:=undef) hi hs hf hr hQ (Or.inr ⟨hw,rfl⟩) hS h
theorem rR1 (i:Nat) (d:Option Nat)
 (h:∀K':Act->World->Prop,Shut (∀a w,S w->(S w->wpAnyH P md ops Q S fuel (listed.setIfInBounds i true) a w)->K' a w)->if Region.wanted ⟨d,x1,x2,x3,x4,x5⟩ (yielded ops a.tmps)=true then Oper.wp P ⟨d,x1,x2,x3,x4,x5⟩ a w K' Q else K' (a.put d undef) w)
 (hr:Region.ready md ops listed= [i]:=by kernel_rfl) (hi:ops[i]? =some ⟨d,x1,x2,x3,x4,x5⟩:=by rfl):wpAnyH P md ops Q S (fuel+1) listed a w:=
 wpAnyH_ready hr (by simp) (AllReadyH.cons hi h AllReadyH.nil)
theorem rR2 (i:Nat) (d:Option Nat) (j:Nat) (d':Option Nat)
 (h:∀K':Act->World->Prop,Shut (∀a w,S w->(S w->wpAnyH P md ops Q S fuel (listed.setIfInBounds i true) a w)->K' a w)->if Region.wanted ⟨d,x1,x2,x3,x4,x5⟩ (yielded ops a.tmps)=true then Oper.wp P ⟨d,x1,x2,x3,x4,x5⟩ a w K' Q else K' (a.put d undef) w)
 (h':∀K':Act->World->Prop,Shut (∀a w,S w->(S w->wpAnyH P md ops Q S fuel (listed.setIfInBounds j true) a w)->K' a w)->if Region.wanted ⟨d',y1,y2,y3,y4,y5⟩ (yielded ops a.tmps)=true then Oper.wp P ⟨d',y1,y2,y3,y4,y5⟩ a w K' Q else K' (a.put d' undef) w)
 (hr:Region.ready md ops listed= [i,j]:=by kernel_rfl) (hi:ops[i]? =some ⟨d,x1,x2,x3,x4,x5⟩:=by rfl) (hj:ops[j]? =some ⟨d',y1,y2,y3,y4,y5⟩:=by rfl):wpAnyH P md ops Q S (fuel+1) listed a w:=
 wpAnyH_ready hr (by simp) (AllReadyH.cons hi h (AllReadyH.cons hj h' AllReadyH.nil))
end
end Cw
end Go.Proofs.YtcnmfcgmnkncaaaGreatDoor
namespace Go.Proofs.YtcnmfcgmnkncaaaGreatDoor
namespace Cw
open Go.RowKit Go.Maps Pw
section
variable {α:Type} {f:α->List Value} {k:Nat} {t:TypeId} {ok:World->α->Prop} {B:Nat} {l l':List Nat} {W W':World} {v:Value} {tr:List α} {P:World->Prop}
theorem RowOk.box (hmono:Mono ok) (h:RowOk f k t ok B l W v tr) {X:Nat} (hX:X=W.heap.size) (o:Obj):RowOk f k t ok B (X::l) (W.alloc o) v tr:=by
 have hb:=zD W o;refine⟨(h.below hmono hb).own,fun x hx=>hmono _ _ _ (zBQ (zCH hb none) (fun _ e=>by cases e) (fun q hq hs=>?_)) (h.rd x hx),fun q hq e=>?_⟩
 ·rcases hs with hs|hs
  ·exact .inl hs
  ·rw [List.cons_append] at hs;rcases kV.1 hs with hs|hs
   ·omega
   ·exact .inr hs
 ·rcases kV.1 hq with hq|hq
  ·have:=(h.ge e).2;omega
  ·exact h.nin q hq e
theorem RowOk.sub (hmono:Mono ok) (h:RowOk f k t ok B l W v tr) (hs:∀q∈l',q∈l):RowOk f k t ok B l' W v tr:=
 ⟨h.own,fun x hx=>hmono _ _ _ (zEV (fun q _ hq=>by
  rcases hq with hq|hq
  ·exact .inl hq
  ·rcases kU.1 hq with hq|hq
   ·exact .inr (kU.2 (.inl (hs q hq)))
   ·exact .inr (kU.2 (.inr hq)))) (h.rd x hx),fun q hq=>h.nin q (hs q hq)⟩
theorem RowOk.both (h:RowOk f k t ok B l W v tr) (hp:P (hide (upL B (l++ownL v)) W)):RowOk f k t (fun U x=>ok U x/\P U) B l W v tr:=⟨h.own,fun x hx=>⟨h.rd x hx,hp⟩,h.nin⟩
theorem RowOk.left (h:RowOk f k t (fun U x=>ok U x/\P U) B l W v tr):RowOk f k t ok B l W v tr:=⟨h.own,fun x hx=>(h.rd x hx).1,h.nin⟩
theorem RowOk.right (h:RowOk f k t (fun U x=>ok U x/\P U) B l W v tr) {x:α} (hx:x∈tr):P (hide (upL B (l++ownL v)) W):=(h.rd x hx).2
theorem RowOk.pend (h:RowOk f k t ok B l W v tr) (hB:B<=W.heap.size) (hl:∀q∈l,q<W.heap.size):Inc (hide (upL W.heap.size []) W') (hide (upL B (l++ownL v)) W'):=
 zM4 hB (fun q hq=>by
  rcases kU.1 hq with hq|hq
  ·exact hl q hq
  ·exact(h.ge (zAL.1 hq)).2)
theorem zTL {X:Nat} (hX:X=W.heap.size) (o:Obj):Inc (hide (upL B (l++ownL v)) W) (hide (upL B (X::l++ownL v)) (W.alloc o)):=
 zBQ (zCH (zD W o) none) (fun _ e=>by cases e) (fun q hq hs=>by
  rcases hs with hs|hs
  ·exact .inl hs
  ·rw [List.cons_append] at hs;rcases kV.1 hs with hs|hs
   ·omega
   ·exact .inr hs)
theorem zB0 {P:Program} {e:TypeId} (hf:∀a,(f a).length=k) (hmono:Mono ok) {ops:Array Oper} {E:Prop} {o:Oper} {a:Act} {K:Act->World->Prop} {Q:Exit->Act->World->Prop} (hgd:o.guard=none) (s x:Operand) (t:TypeId)
 (ho:o.op= .call { callee:= .builtin .append,args:= #[s,x],argTypes:= #[t,t] })
 (i:TypeInfo) (z:Value) (bytes:Nat) (ht:P.underlying t=some (.slice e)) (hi:P.info? e=some i) (hz:i.zero=some z)
 (hsize:i.size=k) (hby:i.bytes=bytes) (hzs:z.cells.size=k) (hsz:0<k) (v2:Value) (news:List α) (hs:a.eval s=v) (hx:a.eval x=v2) (hrow:RowOk f k e ok B l W v tr) (hsrc:SrcAt W f v2 news) (hnews:∀x∈news,ok (hide (upL B (l++ownL v)) W) x) (h1:∀a∈news,∀u∈f a,u.oneCell'=true)
 (h63:tr.length+news.length<=maxLen) (hbytes:(tr.length+news.length)*bytes<=140737488355328) (hbase:B<=W.heap.size) (hlw:∀q∈l,q<W.heap.size)
 (h:∀v' w',RowOk f k e ok B l w' v' (tr++news)->W.grownBy w' v.ownBlock->K (a.put o.dst v') w'):if Region.wanted o (yielded ops a.tmps)=true then Oper.wp P o a W K Q else E:=by
 have hw:Region.wanted o (yielded ops a.tmps)=true:=by simp [Region.wanted,hgd]
 rw [kD hw];obtain⟨v',w',hr,h2,h3⟩:=zNQ (P:=P) hf hmono t o.type i z bytes ht hi hz hsize hby hzs hsz hrow v2 news hsrc hnews h1 h63 hbytes hbase hlw;unfold Oper.wp execOp;simp only [ho,resolve,invoke,builtin,Sem.run_bind,Sem.run_pure,Result.andThen_ok,List.map_toArray,List.map_cons,List.map_nil,hs,hx,hr];exact h v' w' h2 h3
end
def set6o (w:World) (b o:Nat) (x0 x1 x2 x3 x4 x5:Value):World:=((((((w.setCell ⟨b,o,none⟩ x0).setCell ⟨b,o+1,none⟩ x1).setCell ⟨b,o+2,none⟩ x2).setCell ⟨b,o+3,none⟩ x3).setCell ⟨b,o+4,none⟩ x4).setCell ⟨b,o+5,none⟩ x5)
theorem zFD (w:World) (b o:Nat) (x0 x1 x2 x3 x4 x5:Value):w.grownBy (set6o w b o x0 x1 x2 x3 x4 x5) (some b):=
 zAQ (zAQ (zAQ (zAQ (zAQ (zAQ (zCQ _ _) (zW _ b o x0)) (zW _ b (o+1) x1)) (zW _ b (o+2) x2)) (zW _ b (o+3) x3)) (zW _ b (o+4) x4)) (zW _ b (o+5) x5)
theorem zF2 {α:Type} (A L:List α) (j:Nat) (u:α):(A++L).set (A.length+j) u=A++L.set j u:=by
 induction A with
 |nil=>simp
 |cons x r ih=>rw [kI,List.cons_append,List.cons_append,show r.length+1+j=(r.length+j)+1 by omega,List.set_cons_succ,ih]
theorem zTA {α:Type} (A L:List α) (u:α):(A++L).set A.length u=A++L.set 0 u:=zF2 A L 0 u
theorem zSB (y:Tr.E) (a:Value):zAK (y,a)= [.int .i64 y.kind,.int .i64 y.op,.int .i64 y.int,.string y.name,.bool y.at_,a]:=rfl
theorem RowOk.put {B:Nat} {l:List Nat} {W:World} {g n c:Nat} {tr:List ET} {z:ET} (h:RowOk zAK 6 37 zBD B l W (.slice (some ⟨g,0,none⟩) n c) (tr++ [z])) (y:Tr.E) (a:Value) (hy:zBD (hide (upL B (l++ownL (.slice (some ⟨g,0,none⟩) n c))) W) (y,a)) {m:Nat} (hm:tr.length=m) {W':World} (hW:W'=set6o W g (m*6) (.int .i64 y.kind) (.int .i64 y.op) (.int .i64 y.int) (.string y.name) (.bool y.at_) a):
 RowOk zAK 6 37 zBD B l W' (.slice (some ⟨g,0,none⟩) n c) (tr++ [(y,a)]):=by
 subst hW;have hg:=zFD W g (m*6) (.int .i64 y.kind) (.int .i64 y.op) (.int .i64 y.int) (.string y.name) (.bool y.at_) a;have hin:∀q:Nat,some g=some q->q<B\/q∈l++ownL (.slice (some ⟨g,0,none⟩) n c):=fun q e=> .inr (kU.2 (.inr (zAL.2 e)))
 have hinc:Inc (hide (upL B (l++ownL (.slice (some ⟨g,0,none⟩) n c))) W) (hide (upL B (l++ownL (.slice (some ⟨g,0,none⟩) n c))) (set6o W g (m*6) (.int .i64 y.kind) (.int .i64 y.op) (.int .i64 y.int) (.string y.name) (.bool y.at_) a)):=zBQ hg hin (fun _ _ h=>h);refine⟨?_,fun x hx=>?_,h.nin⟩
 ·obtain⟨hf,ho⟩:=h.own;have hlen:(flatV zAK tr).length=m*6:=by rw [flatV_len zAK 6 zBO tr,hm]
  have hz:zAK z= [.int .i64 z.1.kind,.int .i64 z.1.op,.int .i64 z.1.int,.string z.1.name,.bool z.1.at_,z.2]:=zSB z.1 z.2;refine⟨?_,?_⟩
  ·rw [flatV_append,flatV_cons,flatV_nil,List.append_nil] at hf |-;rw [kN,kN,zBO] at hf |-;exact hf
  ·rcases ho with ⟨e,_⟩|⟨b,cap,cur,e,hb,hblk,hn,hmx,hcs,ht⟩
   ·cases e
   ·injection e with e1 e2 e3
    injection e1 with e1
    injection e1 with e1
    subst e1;subst e3;refine .inr ⟨g,c,_,by rw [e2,kN,kN];rfl,hb,heap_set (j:=m*6+5) _ (heap_set (j:=m*6+4) _ (heap_set (j:=m*6+3) _ (heap_set (j:=m*6+2) _ (heap_set (j:=m*6+1) _ (heap_set (j:=m*6) _ hblk))))),?_,hmx,by simp only [Array.size_setIfInBounds];exact hcs,?_⟩
    ·rw [kN] at hn |-;exact hn
    ·simp only [Array.toList_setIfInBounds,List.take_set];have ht2:List.take ((tr++ [(y,a)]).length*6) cur.toList=flatV zAK tr++zAK z:=by
      rw [kN] at ht |-;rw [flatV_append,flatV_cons,flatV_nil,List.append_nil] at ht;exact ht
     rw [ht2,hz,flatV_append,flatV_cons,flatV_nil,List.append_nil,<-hlen];rw [zTA,zF2,zF2,zF2,zF2,zF2]
     rfl
 ·rcases kU.1 hx with hx|hx
  ·exact zR _ _ _ hinc (h.rd x (kU.2 (.inl hx)))
  ·rw [kT.1 hx];exact zR _ _ _ hinc hy
end Cw
end Go.Proofs.YtcnmfcgmnkncaaaGreatDoor
namespace Go.Proofs.YtcnmfcgmnkncaaaGreatDoor
namespace Co
open Tr
abbrev Val:=Option Int
abbrev Res:=Val × Nat × Bool
def truth (v:Val):Bool:=match v with
 |some n=>n != 0
 |none=>false
def operate (et er:Nat) (o:Int) (a b:Val):Val × Nat:=
 if o=5 then(some (bit (a == b)),0) else if o=6 then(some (bit (a != b)),0)
 else match a,b with
  |some a,some b=>
   if o=7 then(some (bit (decide (a<b))),0) else if o=8 then(some (bit (decide (a<=b))),0) else if o=9 then(some (bit (decide (b<a))),0) else if o=10 then(some (bit (decide (b<=a))),0)
   else if o=0 then(some (wrap (a+b)),0) else if o=1 then(some (wrap (a -b)),0) else if o=2 then(some (wrap (a*b)),0)
   else if b=0 then(none,er) else if o=3 then(some (wrap (a.tdiv b)),0) else(some (wrap (a.tmod b)),0)
  |_,_=>(none,et)
def neg1 (et:Nat) (x:Res):Res:=if x.2.1≠0\/x.2.2=false then(none,x.2.1,x.2.2) else match x.1 with
 |some n=>(some (wrap (-n)),0,true)
 |none=>(none,et,true)
def not1 (x:Res):Res:=if x.2.1≠0\/x.2.2=false then(none,x.2.1,x.2.2) else(some (bit (!truth x.1)),0,true)
def bin2 (et er:Nat) (o:Int) (x:Res) (cy:Bool) (y:Res):Res:=
 if x.2.2=false\/cy=false then(none,x.2.1,false)
 else if x.2.1≠0 then(none,x.2.1,true)
 else if (o=11/\truth x.1=false)\/(o=12/\truth x.1=true) then(some (bit (truth x.1)),0,true)
 else if y.2.1≠0\/y.2.2=false then(none,y.2.1,y.2.2)
 else if o=11\/o=12 then(some (bit (truth y.1)),0,true)
 else((operate et er o x.1 y.1).1,(operate et er o x.1 y.1).2,true)
def node (et er:Nat) (a b:Val) (k o i:Int) (nm:BA) (l:List (Res × Bool)):Res:=
 if k=0 then(some i,0,true) else if k=1 then(none,0,true)
 else if k=3 then(if nm=⟨#[97]⟩ then(a,0,true) else(b,0,decide (nm=⟨#[98]⟩)))
 else match l with
  |x::r=>
   if k=8 then neg1 et x.1 else if k=9 then not1 x.1
   else if k=10 then(match r with
    |y::_=>bin2 et er o x.1 y.2 y.1
    | []=>(none,0,false))
   else(none,0,false)
  | []=>(none,0,false)
section
variable {et er:Nat} {a b:Val}
theorem zSJ {o i:Int} {nm:BA} {at_:Bool} {l:List E} (h:zE (.mk 10 o i nm at_ l)=true):(∃x y,l= [x,y])/\0<=o/\o<=12:=by
 have h2:=(zN h).2;unfold okE at h2;simp at h2;refine⟨?_,by omega,by omega⟩
 match l,h2 with
 | [x,y],_=>exact ⟨x,y,rfl⟩
end
end Co
end Go.Proofs.YtcnmfcgmnkncaaaGreatDoor
namespace Go.Proofs.YtcnmfcgmnkncaaaGreatDoor
namespace Co
open Tr
theorem zNG (g:G) (o a b p q:Int):(emit g o a b p q).locals=g.locals:=rfl
theorem zM0 (g:G) (s:BA):(name g s).1.locals=g.locals:=by
 unfold name
 split<;>rfl
mutual
theorem zFU (cs:List C) (fs:List BA):∀(g:G) (e:E),(gE cs fs g e).locals=g.locals
 |g,.mk k o i nm a l=>by
  have h:=zGC cs fs g l;have h11:=zL0 cs fs g 19 0 l;have h12:=zL0 cs fs g 20 1 l;rw [gE]
  repeat' split
  all_goals simp only [zNG,zM0,h,h11,h12]
theorem zGC (cs:List C) (fs:List BA):∀(g:G) (l:List E),(gEs cs fs g l).locals=g.locals
 |g,[]=>by rw [gEs]
 |g,e::r=>by rw [gEs,zGC cs fs _ r,zFU cs fs g e]
theorem zL0 (cs:List C) (fs:List BA):∀(g:G) (j v:Int) (l:List E),(gL cs fs g j v l).locals=g.locals
 |g,j,v,[]=>by rw [gL]
 |g,j,v,x::r=>by
  have h1:=zFU cs fs g x;have h2:=zGC cs fs (emit (gE cs fs g x) j 0 0 1 0) r;rw [gL];exact h2.trans h1
end
abbrev Ins:=Int × Int × Int
def named (o:Int):Bool:=decide (o=6\/o=8\/o=21\/o=24)
def use:List Ins->Nat->Option Nat
 | [],u=>some u
 |x::r,u=>if named x.1 then(if (u:Int)<x.2.1 then none else use r (if x.2.1=(u:Int) then u+1 else u)) else use r u
theorem zHJ:∀(c d:List Ins) (u:Nat),use (c++d) u=(use c u).bind (use d)
 | [],d,u=>rfl
 |x::r,d,u=>by
  rw [List.cons_append,use,use]
  split
  ·split
   ·rfl
   ·exact zHJ r d _
  ·exact zHJ r d u
structure Inv (g:G):Prop where
 use:use g.code 0=some g.names.length
 nodup:g.names.Nodup
def Ext (g h:G):Prop:=∃t,h.code.map Prod.fst=g.code.map Prod.fst++t
theorem Ext.refl (g:G):Ext g g:=⟨[],(List.append_nil _).symm⟩
theorem Ext.trans {g h k:G} (h1:Ext g h) (h2:Ext h k):Ext g k:=by
 obtain⟨t,e1⟩:=h1;obtain⟨u,e2⟩:=h2;exact⟨t++u,by rw [e2,e1,List.append_assoc]⟩
theorem Ext.emit (g:G) (o a b p q:Int):Ext g (emit g o a b p q):=⟨[o],by show(g.code++ [(o,a,b)]).map Prod.fst=_;rw [List.map_append];rfl⟩
theorem zJA:∀(l:List Ins) (i:Nat) (f:Ins->Ins),(∀x,(f x).1=x.1)->(l.modify i f).map Prod.fst=l.map Prod.fst
 | [],i,f,h=>by cases i<;>rfl
 |x::r,0,f,h=>by show(f x::r).map _=_;rw [List.map_cons,List.map_cons,h x]
 |x::r,i+1,f,h=>by
  show(x::r.modify i f).map _=_
  rw [List.map_cons,List.map_cons,zJA r i f h]
theorem Ext.patch (g:G) (i:Nat):Ext g (patch g i):=⟨[],by rw [List.append_nil];exact zJA _ _ _ (fun _=>rfl)⟩
theorem Ext.name (g:G) (s:BA):Ext g (name g s).1:=by
 unfold Co.name
 split
 ·exact .refl g
 ·exact⟨[],(List.append_nil _).symm⟩
theorem zF1:∀(l:List Ins) (i:Nat) (f:Ins->Ins),(∀x,(f x).1=x.1)->(∀x,l[i]? =some x->named x.1=false)->∀u,use (l.modify i f) u=use l u
 | [],i,f,h,hn,u=>by cases i<;>rfl
 |x::r,0,f,h,hn,u=>by
  show use (f x::r) u=_
  have h1:named x.1=false:=hn x rfl;rw [use,use,h x,h1]
  rfl
 |x::r,i+1,f,h,hn,u=>by
  show use (x::r.modify i f) u=_
  rw [use,use]
  split
  ·split
   ·rfl
   ·exact zF1 r i f h (fun y hy=>hn y hy) _
  ·exact zF1 r i f h (fun y hy=>hn y hy) _
theorem Inv.emit {g:G} (h:Inv g) {o:Int} (ho:named o=false) (a b p q:Int):Inv (emit g o a b p q):=by
 refine⟨?_,h.nodup⟩
 show Co.use (g.code++ [(o,a,b)]) 0=some g.names.length
 rw [zHJ,h.use]
 show Co.use [(o,a,b)] _=_
 rw [Co.use,ho]
 rfl
theorem Inv.patch {g:G} (h:Inv g) {i:Nat} (hn:∀x,g.code[i]? =some x->named x.1=false):Inv (patch g i):=
 ⟨(zF1 g.code i (fun x=>(x.1,(g.code.length:Int),x.2.2)) (fun _=>rfl) hn 0).trans h.use,h.nodup⟩
theorem Inv.named {g:G} (h:Inv g) (s:BA) {o:Int} (ho:Co.named o=true) (b p q:Int):Inv (Co.emit (name g s).1 o (name g s).2 b p q):=by
 unfold name
 split
 ·rename_i i hi;have hlt:=(List.findIdx?_eq_some_iff_getElem.1 hi).1;refine⟨?_,h.nodup⟩
  show Co.use (g.code++ [(o,(i:Int),b)]) 0=some g.names.length
  rw [zHJ,h.use]
  show Co.use [(o,(i:Int),b)] _=_
  rw [Co.use,ho,kD rfl];dsimp only;rw [kC (by omega),kC (by omega)]
  rfl
 ·rename_i hi;refine⟨?_,?_⟩
  ·show Co.use (g.code++ [(o,(g.names.length:Int),b)]) 0=some (g.names++ [s]).length
   rw [zHJ,h.use]
   show Co.use [(o,(g.names.length:Int),b)] _=_
   rw [Co.use,ho,kD rfl];dsimp only;rw [kC (by omega),kD rfl,kN]
   rfl
  ·show(g.names++ [s]).Nodup
   rw [List.nodup_append];refine⟨h.nodup,by simp,fun x hx y hy=>?_⟩;rw [kT] at hy;subst hy;rw [List.findIdx?_eq_none_iff] at hi;have:=hi x hx;intro e;simp [e] at this
def run (et er:Nat) (a b:Val) (c:List Ins):Nat->Nat->List Val->Res
 |0,_,_=>(none,0,false)
 |f+1,pc,st=>
  match c[pc]? with
  |none=>(none,0,false)
  |some x=>
   if x.1=0 then run et er a b c f (pc+1) (some x.2.1::st)
   else if x.1=1 then run et er a b c f (pc+1) (none::st)
   else if x.1=3 then run et er a b c f (pc+1) ((if x.2.1=1 then b else a)::st)
   else if x.1=18 then(if x.2.1<0 then(none,0,false) else run et er a b c f x.2.1.toNat st)
   else match st with
    | []=>(none,0,false)
    |v::r=>
     if x.1=14 then(match v with
      |some n=>run et er a b c f (pc+1) (some (wrap (-n))::r)
      |none=>(none,et,true))
     else if x.1=15 then run et er a b c f (pc+1) (some (bit (!truth v))::r)
     else if x.1=17 then run et er a b c f (pc+1) (some (bit (truth v))::r)
     else if x.1=19\/x.1=20 then(if truth v=decide (x.1=20) then(if x.2.1<0 then(none,0,false) else run et er a b c f x.2.1.toNat r) else run et er a b c f (pc+1) r)
     else if x.1=22 then(v,0,true)
     else if x.1=16 then(match r with
      | []=>(none,0,false)
      |u::r2=>if (operate et er x.2.1 u v).2=0 then run et er a b c f (pc+1) ((operate et er x.2.1 u v).1::r2) else(none,(operate et er x.2.1 u v).2,true))
     else(none,0,false)
def Goes (et er:Nat) (a b:Val) (c:List Ins) (k pc:Nat) (st:List Val) (pc':Nat) (st':List Val):Prop:=∀f,run et er a b c (f+k) pc st=run et er a b c f pc' st'
theorem Goes.trans {et er:Nat} {a b:Val} {c:List Ins} {k1 k2 p1 p2 p3:Nat} {s1 s2 s3:List Val} (h1:Goes et er a b c k1 p1 s1 p2 s2) (h2:Goes et er a b c k2 p2 s2 p3 s3):Goes et er a b c (k2+k1) p1 s1 p3 s3:=fun f=>by
 rw [<-Nat.add_assoc,h1,h2]
theorem Goes.push {et er:Nat} {a b:Val} {c:List Ins} {pc:Nat} {n y:Int} (st:List Val) (h:c[pc]? =some (0,n,y)):Goes et er a b c 1 pc st (pc+1) (some n::st):=fun f=>by
 show run et er a b c (f+1) pc st=_
 rw [run,h]
 rfl
def Kp (g h:G):Prop:=∀(i:Nat) (x:Ins),g.code[i]? =some x->h.code[i]? =some x
theorem Kp.refl (g:G):Kp g g:=fun _ _ h=>h
theorem Kp.trans {g h k:G} (a:Kp g h) (b:Kp h k):Kp g k:=fun i x hx=>b i x (a i x hx)
theorem Kp.len {g h:G} (a:Kp g h):g.code.length<=h.code.length:=by
 rcases Nat.lt_or_ge h.code.length g.code.length with hlt|hge
 ·have h1:=a h.code.length _ (kB hlt);rw [List.getElem?_eq_none (kL _)] at h1;cases h1
 ·exact hge
theorem Kp.emit (g:G) (o a b p q:Int):Kp g (emit g o a b p q):=fun i x hx=>by
 show(g.code++ [(o,a,b)])[i]? =some x
 rw [List.getElem?_append_left (kJ.1 hx).1];exact hx
theorem zQ1 (g:G) (i j:Nat) (h:i≠j):(patch g i).code[j]? =g.code[j]?:=by
 show(g.code.modify i _)[j]? =_
 rw [List.getElem?_modify];cases g.code[j]? with
 |none=>rfl
 |some x=>
  show some (if i=j then _ else x)=_
  rw [kC h]
theorem zC8 (g:G) (i:Nat):(patch g i).code.length=g.code.length:=List.length_modify ..
theorem zBJ (g:G) (o a b p q:Int):(emit g o a b p q).code.length=g.code.length+1:=by
 show(g.code++ [(o,a,b)]).length=_
 rw [kN]
 rfl
theorem Kp.patch {g h:G} (a:Kp g h) {i:Nat} (hi:g.code.length<=i):Kp g (patch h i):=fun j x hx=>by
 have:=(kJ.1 hx).1;rw [zQ1 _ _ _ (by omega)];exact a j x hx
theorem Kp.same {g h:G} (e:h.code=g.code):Kp g h:=fun i x hx=>by rw [e];exact hx
theorem Kp.name (g:G) (s:BA):Kp g (name g s).1:=by
 unfold Co.name
 split
 ·exact .refl g
 ·exact .same rfl
mutual
theorem zKI (cs:List C) (fs:List BA):∀(g:G) (e:E),Kp g (gE cs fs g e)
 |g,.mk k o i nm a l=>by
  have hs:=zKH cs fs g l;have h11:=zRJ cs fs g 19 0 l;have h12:=zRJ cs fs g 20 1 l;rw [gE]
  repeat' split
  all_goals first
   |exact Kp.emit _ _ _ _ _ _
   |exact hs.trans (Kp.emit _ _ _ _ _ _)
   |exact hs.trans ((Kp.name _ _).trans (Kp.emit _ _ _ _ _ _))
   |exact h11
   |exact h12
theorem zKH (cs:List C) (fs:List BA):∀(g:G) (l:List E),Kp g (gEs cs fs g l)
 |g,[]=>by rw [gEs];exact .refl g
 |g,e::r=>by rw [gEs];exact(zKI cs fs g e).trans (zKH cs fs _ r)
theorem zRJ (cs:List C) (fs:List BA):∀(g:G) (j v:Int) (l:List E),Kp g (gL cs fs g j v l)
 |g,j,v,[]=>by rw [gL];exact .refl g
 |g,j,v,x::r=>by
  have h1:=zKI cs fs g x;have h3:=zKH cs fs (emit (gE cs fs g x) j 0 0 1 0) r;rw [gL];have l1:=h1.len;have h4:=(h1.trans (.emit _ j 0 0 1 0)).trans h3;have l4:=h4.len;have h5:=((h4.trans (.emit _ 17 0 0 1 1)).trans (.emit _ 18 0 0 0 0))
  generalize hg3:gEs cs fs (emit (gE cs fs g x) j 0 0 1 0) r=g3 at h3 h4 h5 l4 |-
  generalize hg4:emit (emit g3 17 0 0 1 1) 18 0 0 0 0=g4 at h5 |-
  have h6:Kp g (Co.patch { g4 with depth:=g4.depth -1 } (gE cs fs g x).code.length):=Kp.patch (Kp.trans (h:=g4) h5 (Kp.same (h:= { g4 with depth:=g4.depth -1 }) rfl)) l1;exact(h6.trans (.emit _ 0 v 0 0 1)).patch (by rw [zBJ];omega)
end
mutual
theorem zM9 (cs:List C) (fs:List BA):∀(g:G) (e:E),(gE cs fs g e).vars=g.vars
 |g,.mk k o i nm a l=>by
  have hs:=gEs_vars cs fs g l;have h11:=zRI cs fs g 19 0 l;have h12:=zRI cs fs g 20 1 l;have hn:(name (gEs cs fs g l) nm).1.vars=g.vars:=by
   unfold Co.name
   split<;>exact hs
  rw [gE]
  repeat' split
  all_goals first
   |rfl
   |exact hs
   |exact hn
   |exact h11
   |exact h12
theorem gEs_vars (cs:List C) (fs:List BA):∀(g:G) (l:List E),(gEs cs fs g l).vars=g.vars
 |g,[]=>by rw [gEs]
 |g,e::r=>by rw [gEs,gEs_vars cs fs _ r,zM9 cs fs g e]
theorem zRI (cs:List C) (fs:List BA):∀(g:G) (j v:Int) (l:List E),(gL cs fs g j v l).vars=g.vars
 |g,j,v,[]=>by rw [gL]
 |g,j,v,x::r=>by
  rw [gL]
  show(gEs cs fs (emit (gE cs fs g x) j 0 0 1 0) r).vars=g.vars
  rw [gEs_vars cs fs _ r];exact zM9 cs fs g x
end
def Has (c:List Ins) (n:Nat) (h:G):Prop:=∀(i:Nat) (x:Ins),n<=i->h.code[i]? =some x->c[i]? =some x
theorem Has.of {c:List Ins} {n:Nat} {h k:G} (a:Has c n k) (b:Kp h k):Has c n h:=fun i x hi hx=>a i x hi (b i x hx)
structure Out (et er:Nat) (a b:Val) (c:List Ins) (p p':Nat) (r:Res):Prop where
 ok:r.2.1=0->∃k,p+k<=p'/\∀st,Goes et er a b c k p st p' (r.1::st)
 bad:r.2.1≠0->∃k,p+k<=p'/\∀f st,run et er a b c (f+k) p st=(none,r.2.1,true)
section
variable {et er:Nat} {a b:Val} {c:List Ins}
theorem Out.not {p q:Nat} {x:Res} {y:Int × Int} (h:Out et er a b c p q x) (hok:x.2.2=true) (hx:c[q]? =some (15,y)):Out et er a b c p (q+1) (not1 x):=by
 obtain⟨v,f,t⟩:=x;have ht:t=true:=hok;subst ht;unfold not1;dsimp only;by_cases hf:f=0
 ·subst hf;rw [kC (by simp)];obtain⟨k,hk,hg⟩:=h.ok rfl;exact⟨fun _=>⟨1+k,by omega,fun st=>(hg st).trans (fun f=>by rw [run,hx];rfl)⟩,fun h=>absurd rfl h⟩
 ·rw [kD (.inl hf)];obtain⟨k,hk,hg⟩:=h.bad hf;exact⟨fun h=>absurd h hf,fun _=>⟨k,by omega,hg⟩⟩
theorem Out.bin {p q r:Nat} {x y:Res} {o z:Int} (ho:0<=o/\o<=10) (h1:Out et er a b c p q x) (k1:x.2.2=true) (h2:Out et er a b c q r y) (k2:y.2.2=true) (hx:c[r]? =some (16,o,z)):Out et er a b c p (r+1) (bin2 et er o x true y):=by
 obtain⟨v,f,t⟩:=x;obtain⟨u,f2,t2⟩:=y;have ht:t=true:=k1;have ht2:t2=true:=k2;subst ht ht2;unfold bin2;dsimp only;rw [kC (by simp)];by_cases hf:f=0
 ·subst hf;rw [kC (by simp),kC (by omega)];obtain⟨k,hk,hg⟩:=h1.ok rfl;by_cases hf2:f2=0
  ·subst hf2;rw [kC (by simp),kC (by omega)];obtain⟨k',hk',hg'⟩:=h2.ok rfl;have hs:∀f st,run et er a b c (f+(1+(k'+k))) p st=if (operate et er o v u).2=0 then run et er a b c f (r+1) ((operate et er o v u).1::st) else(none,(operate et er o v u).2,true):=fun f st=>by
    rw [<-Nat.add_assoc,<-Nat.add_assoc,hg st,hg' _,run,hx]
    rfl
   refine⟨fun h=>⟨1+(k'+k),by omega,fun st f=>?_⟩,fun h=>⟨1+(k'+k),by omega,fun f st=>?_⟩⟩
   ·rw [hs,kD h]
   ·rw [hs,kC h]
  ·rw [kD (.inl hf2)];obtain⟨k',hk',hg'⟩:=h2.bad hf2;exact⟨fun h=>absurd h hf2,fun _=>⟨k'+k,by omega,fun f st=>by rw [<-Nat.add_assoc,hg st,hg']⟩⟩
 ·rw [kD hf];obtain⟨k,hk,hg⟩:=h1.bad hf;refine⟨fun h=>absurd h hf,fun _=>⟨k,?_,hg⟩⟩;by_cases hf2:f2=0
  ·obtain⟨k',hk',hg'⟩:=h2.ok hf2;omega
  ·obtain⟨k',hk',hg'⟩:=h2.bad hf2;omega
end
end Co
end Go.Proofs.YtcnmfcgmnkncaaaGreatDoor
