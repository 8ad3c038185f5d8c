/-
  CgMh, CgExprs, CgLogic, CoSound, CoSoundB.
-/
import Derived.Test.YtcnmfcgmnkncaaaGreatDoorX30
import Derived.Test.YtcnmfcgmnkncaaaGreatDoorX31
set_option maxRecDepth 100000
set_option maxHeartbeats 40000000
open Go.Proofs.Tryz
namespace Go.Proofs.YtcnmfcgmnkncaaaGreatDoor
section
namespace Cw
open Go.RowKit Go.Maps Pw
structure Mh (l:List Nat) (w:World) (bs:List Bk) (os:List (World->Prop)) (W:World):Prop where
 m:My w bs [] W
 hl:∀q∈l,q<w.heap.size
 ro:∀r∈os,Mn r/\r (hide (upL 0 (l++bs.map Prod.fst)) W)
section
variable {l:List Nat} {w W W':World} {bs bs':List Bk} {os os':List (World->Prop)} {r:World->Prop}
theorem Mh.start (hl:∀q∈l,q<w.heap.size) (ro:∀r∈os,Mn r/\r (hide (upL 0 l) w)):Mh l w [] os w:=⟨My.start w,hl,fun r hr=>by rw [List.map_nil,List.append_nil];exact ro r hr⟩
theorem Mh.b (h:Mh l w bs os W) (i:Nat) {X:Nat} {cs:Array Value} {t:TypeId} (hi:bs[i]? =some (X,cs,t)):W.heap[X]? =some (.cells cs t (0,0)):=h.m.b i hi
theorem Mh.all (h:Mh l w bs os W):∀q∈l++bs.map Prod.fst,q<W.heap.size:=fun q hq=>by
 rcases kU.1 hq with hq|hq
 ·exact kP (h.hl q hq) h.m.le
 ·exact(h.m.lts hq).2.1
theorem Mh.o (h:Mh l w bs os W) (i:Nat) (hi:os[i]? =some r):r (hide (upL 0 (l++bs.map Prod.fst)) W):=(h.ro _ (kM hi)).2
theorem Mh.rd (h:Mh l w bs os W) (i:Nat) (hi:os[i]? =some r):r W:=(h.ro _ (kM hi)).1 _ _ zBL (h.o i hi)
theorem Mh.past (h:Mh l w bs os W) (i:Nat) (hi:os[i]? =some r):r (hide (upL 0 l) W):=(h.ro _ (kM hi)).1 _ _ (zEG (kL _) (fun _ hb=>kU.2 (.inl hb))) (h.o i hi)
theorem Mh.below (h:Mh l w bs os W) (hb:Below W.heap.size W W'):Mh l w bs os W':=⟨Mz.below h.m hb,h.hl,fun r hr=>⟨(h.ro r hr).1,(h.ro r hr).1 _ _ (zA8 hb) (h.ro r hr).2⟩⟩
theorem Mh.call (h:Mh l w bs os W) (hb:Below W.heap.size W W') (hm:Mn r) (hr:r (hide (upL 0 (l++bs.map Prod.fst)) W')):Mh l w bs (r::os) W':=⟨Mz.below h.m hb,h.hl,fun q hq=>by
 rcases kV.1 hq with rfl|hq
 ·exact⟨hm,hr⟩
 ·exact(h.below hb).ro q hq⟩
theorem Mh.get (h:Mh l w bs os W) (hm:Mn r) (hr:r (hide (upL 0 (l++bs.map Prod.fst)) W)):Mh l w bs (r::os) W:=⟨h.m,h.hl,fun q hq=>by
 rcases kV.1 hq with rfl|hq
 ·exact⟨hm,hr⟩
 ·exact h.ro q hq⟩
theorem Mh.few (h:Mh l w bs os W) (hs:∀r∈os',r∈os):Mh l w bs os' W:=⟨h.m,h.hl,fun r hr=>h.ro r (hs r hr)⟩
theorem Mh.nrm (h:Mh l w bs os W) (e:bs=bs'):Mh l w bs' os W:=e▸h
theorem Mh.boxE (h:Mh l w bs os W) (cs:Array Value) (t:TypeId):∃X W',Hid (X=W.heap.size)/\Hid (W'=W.alloc (.cells cs t))/\W.heap.size<=X/\Hid (Mh l w ((X,cs,t)::bs) os W'):=
 ⟨_,_,zh rfl,zh rfl,kL _,zh ⟨h.m.box rfl cs t,h.hl,fun r hr=>⟨(h.ro r hr).1,(h.ro r hr).1 _ _ (zBQ (zCH (zD W (.cells cs t)) none) (fun _ e=>by cases e) (fun q hq hs=>by
  rcases hs with hs|hs
  ·exact .inl hs
  ·rcases kU.1 hs with hs|hs
   ·exact .inr (kU.2 (.inl hs))
   ·rw [List.map_cons] at hs;rcases kV.1 hs with hs|hs
    ·simp only at hs;omega
    ·exact .inr (kU.2 (.inr hs)))) (h.ro r hr).2⟩⟩⟩
theorem Mh.drewE (h:Mh l w bs os W):∃W',Hid (W'=W.drew)/\Hid (Mh l w bs os W'):=⟨_,zh rfl,zh (h.below (zEH (zGA (zCQ _ _))))⟩
theorem Mh.set (h:Mh l w bs os W) (i:Nat) {X:Nat} {cs cs':Array Value} {t:TypeId} (hi:bs[i]? =some (X,cs,t)) (hg:W.grownBy W' (some X)) (hn:W'.heap[X]? =some (.cells cs' t (0,0))):Mh l w (bs.set i (X,cs',t)) os W':=by
 have hXm:X∈bs.map Prod.fst:=List.mem_map.2 ⟨_,kM hi,rfl⟩;have hil:i<bs.length:=(kJ.1 hi).1;have hf:(bs.set i (X,cs',t)).map Prod.fst=bs.map Prod.fst:=by
  rw [List.map_set];refine List.ext_getElem? fun j=>?_
  rw [List.getElem?_set];by_cases hij:i=j
  ·subst hij;rw [kD rfl,kD (by rw [List.length_map];exact hil),List.getElem?_map,hi]
   rfl
  ·rw [kC hij]
 refine⟨Mz.set h.m i hi hg hn,h.hl,fun r hr=>?_⟩;rw [hf];exact⟨(h.ro r hr).1,(h.ro r hr).1 _ _ (zBQ hg (fun q e=>by injection e with e;exact .inr (kU.2 (.inr (e▸hXm)))) (fun q _ hq=>hq)) (h.ro r hr).2⟩
theorem Mh.setRowE (h:Mh l w bs os W) (i:Nat) {X:Nat} {cs:Array Value} {t:TypeId} (hi:bs[i]? =some (X,cs,t)) (cs':Array Value):
 ∃W',Hid (W'=W.setRow X cs')/\Hid (Mh l w (bs.set i (X,cs',t)) os W'):=
 ⟨_,zh rfl,zh (h.set i hi ⟨rfl,rfl,rfl,Nat.le_of_eq (setRow_size ..).symm,fun b _ hn=>setRow_other _ _ _ _ (fun e=>hn (by rw [e]))⟩ (setRow_heap _ _ _ _ _ _ (h.b i hi)))⟩
end
def RG (x y z:Value) (g:Co.G):World->Prop:=fun W=>GR W x y z g
theorem rg_mn {x y z:Value} {g:Co.G}:Mn (RG x y z g):=fun _ _ hi h=>GR.inc h hi
def RF (a b:Value) (cs:List Tr.C) (cl:Tr.C):World->Prop:=fun W=>SlC W a cs/\SlStr W b cl.fields
theorem rf_mn {a b:Value} {cs:List Tr.C} {cl:Tr.C}:Mn (RF a b cs cl):=fun _ _ hi h=>⟨SlC.inc h.1 hi,SlStr.inc h.2 hi⟩
def A6 (b o:Nat) (e:Tr.E) (a:Value):World->Prop:=fun W=>CellsE W b o e a
theorem a6_mn {b o:Nat} {e:Tr.E} {a:Value}:Mn (A6 b o e a):=fun _ _ hi h=>⟨hi.2 _ _ _ h.1,hi.2 _ _ _ h.2.1,hi.2 _ _ _ h.2.2.1,hi.2 _ _ _ h.2.2.2.1,hi.2 _ _ _ h.2.2.2.2.1,hi.2 _ _ _ h.2.2.2.2.2⟩
def XC (a b c:Value) (cs:List Tr.C) (cl:Tr.C) (d:Nat):Prop:=∀(e:Tr.E) (av x y z:Value) (g:Co.G) (w:World) (l:List Nat) (m:Nat),e.deep<=d->Tr.zE e=true->BdE e->(∀q∈l,q<w.heap.size)->RG x y z g (hide (upL 0 l) w)->RF a b cs cl (hide (upL 0 l) w)->RE av e.args (hide (upL 0 l) w)->(Co.Bd m g/\m+Co.wE e<=900000)->
    Calls prog 141 #[.agg (gC a cl b c x y z g),zK e av] w (GP a b c cl l (Co.gE cs cl.fields g e) w)
theorem Mh.elem {l:List Nat} {w W:World} {bs:List Bk} {os:List (World->Prop)} (h:Mh l w bs os W) (i:Nat) {p:Option Addr} {N c:Nat} {es:List Tr.E} (hi:os[i]? =some (RE (.slice p N c) es)) {j:Nat} {x:Tr.E} (hx:es[j]? =some x):
 ∃b o pa ca,p=some ⟨b,o,none⟩/\BdE x/\Hid (Mh l w bs (A6 b (o+j*6) x (.slice pa x.args.length ca)::RE (.slice pa x.args.length ca) x.args::os) W):=by
 obtain⟨b,o,aa,hp,hb,hc,hbd,hs⟩:=SlE.get (h.o i hi) hx;obtain⟨pa,ca,rfl,_⟩:=hs.form;exact⟨b,o,pa,ca,hp,hbd,zh ((h.get re_mn hs).get a6_mn hc)⟩
abbrev G12 (X:Nat) (a:Value) (cl:Tr.C) (b c x y z:Value) (g:Co.G) (W:World):Prop:=W.cell? ⟨X,0,none⟩=some a/\W.cell? ⟨X,1,none⟩=some (.string cl.name)/\W.cell? ⟨X,2,none⟩=some (.bool cl.actor)/\W.cell? ⟨X,3,none⟩=some b/\W.cell? ⟨X,4,none⟩=some c/\W.cell? ⟨X,5,none⟩=some x/\W.cell? ⟨X,6,none⟩=some y/\W.cell? ⟨X,7,none⟩=some z/\W.cell? ⟨X,8,none⟩=some (.int .i64 g.locals)/\W.cell? ⟨X,9,none⟩=some (.int .i64 g.depth)/\W.cell? ⟨X,10,none⟩=some (.int .i64 g.most)/\W.cell? ⟨X,11,none⟩=some (.bool g.large)
abbrev E6 (b o:Nat) (e:Tr.E) (a:Value) (W:World):Prop:=W.cell? ⟨b,o,none⟩=some (.int .i64 e.kind)/\W.cell? ⟨b,o+1,none⟩=some (.int .i64 e.op)/\W.cell? ⟨b,o+2,none⟩=some (.int .i64 e.int)/\W.cell? ⟨b,o+3,none⟩=some (.string e.name)/\W.cell? ⟨b,o+4,none⟩=some (.bool e.at_)/\W.cell? ⟨b,o+5,none⟩=some a
section
variable {a b c:Value} {cl:Tr.C} {l:List Nat} {w W:World} {bs:List Bk} {os:List (World->Prop)} {x y z:Value} {g:Co.G} {X:Nat} {cs:Array Value}
theorem Mh.gc {T:Co.G} {n:Nat} {f:FuncId} {args:Array Value} (C:Mh l w bs os W) (hk:Calls prog f args W (GP a b c cl (l++bs.map Prod.fst) T W)) (hB:Co.Bd n T) {Q:Ending->World->Prop}
 (h:∀(g:Co.G) (y z:Value) (p:Option Addr) (k:Nat) (W':World),Hid (T=g)->Hid (Co.Bd n g)->Hid (Mh l w bs (RG (.slice p g.code.length k) y z g::os) W')->Q (.returned (.agg (gC a cl b c (.slice p g.code.length k) y z g))) W'):Calls prog f args W Q:=
 hk.mono fun e W' hq=>by
  obtain⟨x,y,z,he,hb,hr⟩:=hq;obtain⟨p,k,hx,_⟩:=hr.code.form;subst hx he;exact h T y z p k W' (zh rfl) (zh hB) (zh (C.call hb rg_mn hr))
theorem Mh.gcn {T:Co.G} {n:Nat} {N:Int} {f:FuncId} {args:Array Value} (C:Mh l w bs os W) (hk:Calls prog f args W (GPN a b c cl (l++bs.map Prod.fst) T N W)) (hB:Co.Bd n T) {Q:Ending->World->Prop}
 (h:∀(g:Co.G) (y z:Value) (p:Option Addr) (k:Nat) (W':World),Hid (T=g)->Hid (Co.Bd n g)->Hid (Mh l w bs (RG (.slice p g.code.length k) y z g::os) W')->Q (.returned (.tuple #[.agg (gC a cl b c (.slice p g.code.length k) y z g),.int .i64 N])) W'):Calls prog f args W Q:=
 hk.mono fun e W' hq=>by
  obtain⟨x,y,z,he,hb,hr⟩:=hq;obtain⟨p,k,hx,_⟩:=hr.code.form;subst hx he;exact h T y z p k W' (zh rfl) (zh hB) (zh (C.call hb rg_mn hr))
variable {n:Nat} (C:Mh l w bs os W) (hF:a.oneCell'=true/\b.oneCell'=true/\c.oneCell'=true) (i:Nat) (hi:os[i]? =some (RG x y z g)) (hB:Co.Bd n g) (hn:n<=900000)
include C hF hi hB hn
theorem Mh.em (o aa bb pp qq:Int) {m:Nat} (hm:0<=pp/\pp<=m/\0<=qq/\qq<=m/\m<=1000000) {Q:Ending->World->Prop}
 (h:∀(g':Co.G) (y z:Value) (p:Option Addr) (k:Nat) (W':World),Hid (Co.emit g o aa bb pp qq=g')->Hid (Co.Bd (n+m+1) g')->Hid (Mh l w bs (RG (.slice p g'.code.length k) y z g'::os) W')->Q (.returned (.agg (gC a cl b c (.slice p g'.code.length k) y z g'))) W'):Calls prog 61 #[.agg (gC a cl b c x y z g),.int .i64 o,.int .i64 aa,.int .i64 bb,.int .i64 pp,.int .i64 qq] W Q:=
 C.gc (zFT hF C.all (C.o i hi) ⟨hB,hn⟩ o aa bb pp qq ⟨by omega,by omega⟩ ⟨by omega,by omega⟩) (hB.em ⟨by omega,by omega⟩ ⟨by omega,by omega⟩) h
theorem Mh.pa {k:Nat} (hk:k<g.code.length) {Q:Ending->World->Prop}
 (h:∀(g':Co.G) (y z:Value) (p:Option Addr) (k':Nat) (W':World),Hid (Co.patch g k=g')->Hid (Co.Bd n g')->Hid (Mh l w bs (RG (.slice p g'.code.length k') y z g'::os) W')->Q (.returned (.agg (gC a cl b c (.slice p g'.code.length k') y z g'))) W'):Calls prog 146 #[.agg (gC a cl b c x y z g),.int .i64 k] W Q:=
 C.gc (zPI hF C.all (C.o i hi) ⟨hB,hn⟩ hk) (hB.patch _) h
theorem Mh.nm (s:BA) (hs:s.size<=maxLen) {Q:Ending->World->Prop}
 (h:∀(g':Co.G) (y z:Value) (p:Option Addr) (k:Nat) (W':World),Hid ((Co.name g s).1=g')->Hid (Co.Bd (n+1) g')->Hid (Mh l w bs (RG (.slice p g'.code.length k) y z g'::os) W')->Q (.returned (.tuple #[.agg (gC a cl b c (.slice p g'.code.length k) y z g'),.int .i64 (Co.name g s).2])) W'):Calls prog 145 #[.agg (gC a cl b c x y z g),.string s] W Q:=
 C.gcn (zPJ hF C.all (C.o i hi) ⟨hB,hn⟩ s hs) (hB.name s) h
end
section
variable {a b c:Value} {cl:Tr.C} {l:List Nat} {w W:World} {bs:List Bk} {os:List (World->Prop)} {x y z:Value} {g:Co.G} {X:Nat} {cs:Array Value}
variable {ops:Array Oper} {rest:List Oper} {o:Oper} {A:Act} {Q:Exit->Act->World->Prop} {K:Act->World->Prop} {xo yo:Operand}
theorem gl (hb:W.heap[X]? =some (.cells cs 116 (0,0))) (h:wpList prog ops Q rest (A.put o.dst (.agg cs)) W) (hgd:o.guard=none:=by rfl) (ho:o.op= .load 116 xo:=by rfl) (hx:A.eval xo= .pointer (some ⟨X,0,none⟩):=by rfl) (hs:cs.size=12:=by rfl):wpList prog ops Q (o::rest) A W:=
 wpList_load_row hgd _ _ ho X hx _ _ _ _ hb underlying116 rfl (by rw [hs];exact gInfo) h
theorem glw (hb:W.heap[X]? =some (.cells cs 116 (0,0))) (h:K (A.put o.dst (.agg cs)) W) (ho:o.op= .load 116 xo:=by rfl) (hx:A.eval xo= .pointer (some ⟨X,0,none⟩):=by rfl) (hs:cs.size=12:=by rfl):o.wp prog A W K Q:=
 wp_load_row _ _ ho X hx _ _ _ _ hb underlying116 rfl (by rw [hs];exact gInfo) h
theorem Mh.gsw (C:Mh l w bs os W) (hF:a.oneCell'=true/\b.oneCell'=true/\c.oneCell'=true) (j:Nat) (hj:bs[j]? =some (X,cs,116)) (i:Nat) (hi:os[i]? =some (RG x y z g)) (h:∀W',Hid (Mh l w (bs.set j (X,gC a cl b c x y z g,116)) os W')->K (A.put o.dst undef) W') (ho:o.op= .store 116 xo yo) (hx:A.eval xo= .pointer (some ⟨X,0,none⟩)) (hy:A.eval yo= .agg (gC a cl b c x y z g)) (hs:cs.size=12):o.wp prog A W K Q:=by
 obtain⟨W',HW,C'⟩:=C.setRowE j hj (gC a cl b c x y z g);refine wp_store_row _ _ _ ho X _ hx hy _ _ (C.b j hj) gInfo hs (zFV hF (C.rd i hi)) ?_;rw [<-HW.out];exact h W' C'
theorem Mh.gw0 (C:Mh l w ((X,cs,116)::bs) os W) (hF:a.oneCell'=true/\b.oneCell'=true/\c.oneCell'=true) (i:Nat) (hi:os[i]? =some (RG x y z g)) (h:∀W',Hid (Mh l w ((X,gC a cl b c x y z g,116)::bs) os W')->K (A.put o.dst undef) W') (ho:o.op= .store 116 xo yo:=by rfl) (hx:A.eval xo= .pointer (some ⟨X,0,none⟩):=by rfl) (hy:A.eval yo= .agg (gC a cl b c x y z g):=by rfl) (hs:cs.size=12:=by rfl):o.wp prog A W K Q:=
 C.gsw hF 0 rfl i hi h ho hx hy hs
theorem Mh.gw2 {u v:Bk} (C:Mh l w (u::v::(X,cs,116)::bs) os W) (hF:a.oneCell'=true/\b.oneCell'=true/\c.oneCell'=true) (i:Nat) (hi:os[i]? =some (RG x y z g)) (h:∀W',Hid (Mh l w (u::v::(X,gC a cl b c x y z g,116)::bs) os W')->K (A.put o.dst undef) W') (ho:o.op= .store 116 xo yo:=by rfl) (hx:A.eval xo= .pointer (some ⟨X,0,none⟩):=by rfl) (hy:A.eval yo= .agg (gC a cl b c x y z g):=by rfl) (hs:cs.size=12:=by rfl):o.wp prog A W K Q:=
 C.gsw hF 2 rfl i hi h ho hx hy hs
theorem Mh.gs0 (C:Mh l w ((X,cs,116)::bs) os W) (hF:a.oneCell'=true/\b.oneCell'=true/\c.oneCell'=true) (i:Nat) (hi:os[i]? =some (RG x y z g)) (h:∀W',Hid (Mh l w ((X,gC a cl b c x y z g,116)::bs) os W')->wpList prog ops Q rest (A.put o.dst undef) W') (hgd:o.guard=none:=by rfl) (ho:o.op= .store 116 xo yo:=by rfl) (hx:A.eval xo= .pointer (some ⟨X,0,none⟩):=by rfl) (hy:A.eval yo= .agg (gC a cl b c x y z g):=by rfl) (hs:cs.size=12:=by rfl):wpList prog ops Q (o::rest) A W:=
 wpList_plain hgd fun _ hK=>C.gw0 hF i hi (fun W' C'=>hK _ _ (h W' C')) ho hx hy hs
theorem Mh.gs2 {u v:Bk} (C:Mh l w (u::v::(X,cs,116)::bs) os W) (hF:a.oneCell'=true/\b.oneCell'=true/\c.oneCell'=true) (i:Nat) (hi:os[i]? =some (RG x y z g)) (h:∀W',Hid (Mh l w (u::v::(X,gC a cl b c x y z g,116)::bs) os W')->wpList prog ops Q rest (A.put o.dst undef) W') (hgd:o.guard=none:=by rfl) (ho:o.op= .store 116 xo yo:=by rfl) (hx:A.eval xo= .pointer (some ⟨X,0,none⟩):=by rfl) (hy:A.eval yo= .agg (gC a cl b c x y z g):=by rfl) (hs:cs.size=12:=by rfl):wpList prog ops Q (o::rest) A W:=
 wpList_plain hgd fun _ hK=>C.gw2 hF i hi (fun W' C'=>hK _ _ (h W' C')) ho hx hy hs
theorem Mh.ge {R q:Nat} {fn:Func} {T:Co.G} (C:Mh l w bs os W) (j:Nat) (hj:bs[j]? =some (R,gC a cl b c x y z g,116)) (i:Nat) (hi:os[i]? =some (RG x y z g)) (hr:fn.results= #[.cell q 116]) (hf:T=g) (hq:A.tmps.getD q undef= .pointer (some ⟨R,0,none⟩):=by rfl) (hd:A.defers= []:=by rfl):bodyPost prog fn (GP a b c cl l T w) .ret A W:=
 Mz.retA C.m j hj hr hq hd ⟨_,underlying116⟩ gInfo (by rw [hf];exact⟨_,y,z,rfl,C.m.gr.fresh,C.past i hi⟩)
end
end Cw
end
section
namespace Cw
open Go.RowKit Go.Maps Pw
theorem zCR {a b c:Value} {cs:List Tr.C} {cl:Tr.C} {d:Nat} (hX:XC a b c cs cl d) (hF:a.oneCell'=true/\b.oneCell'=true/\c.oneCell'=true) (es:List Tr.E) {v x y z:Value} {g:Co.G} {w:World} {l:List Nat} {m:Nat} (hd:∀e∈es,e.deep<=d) (hv:Tr.zT es=true) (hl:∀q∈l,q<w.heap.size) (hr:RG x y z g (hide (upL 0 l) w)) (hf:RF a b cs cl (hide (upL 0 l) w)) (he:RE v es (hide (upL 0 l) w)) (hbd:Co.Bd m g/\m+Co.wEs es<=900000):
 Calls prog 144 #[.agg (gC a cl b c x y z g),v] w (GP a b c cl l (Co.gEs cs cl.fields g es) w):=by
 have HX:=zh hX;have HF:=zh hF;have HD:=zh hd;have HV:=zh hv;have HBD:=zh hbd;obtain⟨p,ce,rfl,_⟩:=he.form;obtain⟨EN,hEN⟩:∃q,es.length=q:=⟨_,rfl⟩;have HEN:=zh hEN;have hEB:EN<=900000:=by have:=zJY es;have:=hbd.2;omega
 rw [hEN] at he |-;have C0:=zh (Mh.start (os:= [RG x y z g,RF a b cs cl,RE (.slice p EN ce) es]) hl (fun r h=>by
  simp only [kV,List.not_mem_nil,or_false] at h;rcases h with rfl|rfl|rfl
  ·exact⟨rg_mn,hr⟩
  ·exact⟨rf_mn,hf⟩
  ·exact⟨re_mn,he⟩))
 clear hX hF hd hv hbd hl hr hf he hEN;obtain⟨G,w1,HX1,HW1,hx1,C1⟩:=C0.boxE (gC a cl b c x y z g) 116;obtain⟨R,w2,HX2,HW2,hx2,C2⟩:=C1.boxE (#[.slice none 0 0,.string ⟨#[]⟩,.bool false,.slice none 0 0,.slice none 0 0,.slice none 0 0,.slice none 0 0,.slice none 0 0,.int .i64 0,.int .i64 0,.int .i64 0,.bool false]) 116;have HY2:Hid (R=G+1):=zh (by rw [HX2.out,HW1.out,HX1.out];simp);go_in;go_upto_region 1 with fail;rw [<-HX1.out,<-HW1.out,<-HY2.out,<-HW2.out];clear HX1 HW1 C0 HY2 HX2 HW2 C1;go_wp2
 go_loopg [5] EN (fun gg s5 wr=>∃(j:Nat) (x1 y1 z1:Value) (g1:Co.G),s5= .int .i64 j/\j<=EN/\gg=EN -j/\Hid (Co.gEs cs cl.fields g (es.take j)=g1)/\Hid (Mh l w [(R,#[.slice none 0 0,.string ⟨#[]⟩,.bool false,.slice none 0 0,.slice none 0 0,.slice none 0 0,.slice none 0 0,.slice none 0 0,.int .i64 0,.int .i64 0,.int .i64 0,.bool false],116),(G,gC a cl b c x1 y1 z1 g1,116)] [RG x1 y1 z1 g1,RF a b cs cl,RE (.slice p EN ce) es] wr))
 case atStart=>exact ⟨0,x,y,z,g,rfl,kO _,rfl,zh (by rw [List.take_zero,Co.gEs]),C2⟩
 case round=>
  clear C2;obtain⟨j,x1,y1,z1,g1,rfl,hj,hgg,HG1,CR⟩:=hrel;obtain⟨w_,hw_⟩:∃q,q=wr:=⟨_,rfl⟩;rw [<-hw_] at CR |-;clear hw_;by_cases hlt:j<EN
  ·obtain⟨e,he⟩:∃e,es[j]? =some e:=⟨_,kB (by rw [HEN.out];exact hlt)⟩;obtain⟨eb,eo,pa,ca,hp,hbe,CE⟩:=CR.elem 2 rfl he;subst hp;have HE:=zh he;have HBE:=zh hbe;clear he hbe CR;have hj0:(0:Int)<=(j:Int):=(by omega);have hj1:(j:Int)<(EN:Int):=(by omega);go_upto_region 4 with fail;obtain⟨w3,HW,C3⟩:=CE.drewE;refine wp_region_held_drew (S:=fun W=>W.cell? ⟨eb,eo+j*6,none⟩=some (.int .i64 e.kind)/\W.cell? ⟨eb,eo+j*6+1,none⟩=some (.int .i64 e.op)/\W.cell? ⟨eb,eo+j*6+2,none⟩=some (.int .i64 e.int)/\W.cell? ⟨eb,eo+j*6+3,none⟩=some (.string e.name)/\W.cell? ⟨eb,eo+j*6+4,none⟩=some (.bool e.at_)/\W.cell? ⟨eb,eo+j*6+5,none⟩=some (.slice pa e.args.length ca)) (by kernel_rfl) (by rw [<-HW.out];exact C3.rd 0 rfl) (fun hH=>?_);rw [<-HW.out] at hH |-;clear HW CE;refine rU 1 (some 13) ?_;refine rU 2 (some 14) ?_;refine rU 3 (some 15) ?_;refine rU 4 (some 16) ?_;clear hj0 hj1 hH;refine rR1 0 (some 12) (fun K hK=>?_);rw [kD (by rfl)];refine wp_load_row _ _ rfl G rfl _ _ _ _ (C3.b 1 rfl) underlying116 rfl (by kernel_rfl) ?_;refine hK _ _ ?_ (fun hH=>?_)
   ·exact(C3.rd 0 rfl)
   clear hK K hH
   try simp only [Act.put]
   refine rR1 5 (some 17) (fun K hK=>?_);go_simp;have hk:=HX e (.slice pa e.args.length ca) x1 y1 z1 g1 w3 _ (m+Co.wEs (es.take j)) (HD e (kM HE)) (zH HV HE) HBE C3.all (C3.o 2 rfl) (C3.o 3 rfl) (C3.o 1 rfl) ⟨by rw [<-HG1.out];exact Co.zBX _ _ _ _ _ HBD.1,by have:=zJX HE;have:=HBD.2;omega⟩;unfold zK at hk;obtain⟨g4,hg4⟩:∃q,Co.gE cs cl.fields g1 e=q:=⟨_,rfl⟩;rw [hg4] at hk;have HG4:=zh hg4;refine hk.mono ?_;clear hk hg4;rintro e_ w4 ⟨x4,y4,z4,rfl,hb9,hr9⟩;have C4:=zh (C3.call hb9 (r:=RG x4 y4 z4 g4) rg_mn hr9);clear hb9 hr9 C3;go_wp2;refine hK _ _ ?_ (fun hH=>?_)
   ·exact(C4.rd 1 rfl)
   clear hK K hH
   try simp only [Act.put]
   refine rR1 6 none (fun K hK=>?_);rw [kD (by rfl)];have h1:=zFV (a:=a) (b:=b) (c:=c) (cl:=cl) HF ((C4.rd 0 rfl));obtain⟨w5,HW,C5⟩:=C4.setRowE 1 rfl (gC a cl b c x4 y4 z4 g4);dsimp only [List.set] at C5;refine wp_store_row _ _ _ rfl G (gC a cl b c x4 y4 z4 g4) rfl rfl _ _ (C4.b 1 rfl) (by kernel_rfl) rfl h1 ?_;rw [<-HW.out];clear HW C4 h1;refine hK _ _ ?_ (fun hH=>?_)
   ·exact(C5.rd 1 rfl)
   clear hK K hH
   try simp only [Act.put]
   refine wpAnyH_done (by kernel_rfl) ?_ _;go_wp2;go_roundg (EN -(j+1))
   case measure=>omega
   case rel=>exact ⟨j+1,x4,y4,z4,g4,by go_num,by omega,rfl,zh (by rw [List.take_add_one,HE.out];show Co.gEs cs cl.fields g (es.take j++ [e])=_;rw [zM8,HG1.out,HG4.out]),zh (C5.few (fun r hr=>by simp only [kV,List.not_mem_nil,or_false] at hr |-;rcases hr with h|h|h<;>simp [h]))⟩
  ·obtain rfl:EN=j:=by omega
   have HGE:Hid (Co.gEs cs cl.fields g es=g1):=zh (by have h9:=HG1.out;rw [kR (by rw [HEN.out];exact kL _)] at h9;exact h9);have h1:=zFV (a:=a) (b:=b) (c:=c) (cl:=cl) HF ((CR.rd 0 rfl));obtain⟨w6,HW,C6⟩:=CR.setRowE 0 rfl (gC a cl b c x1 y1 z1 g1);dsimp only [List.set] at C6;go_wp2_with (first|(refine wpList_load_row rfl _ _ rfl G rfl _ _ _ _ (CR.b 1 rfl) underlying116 rfl (by kernel_rfl) ?_)|(refine wpList_store_row rfl _ _ _ rfl R (gC a cl b c x1 y1 z1 g1) rfl rfl _ _ (CR.b 0 rfl) (by kernel_rfl) rfl h1 ?_));rw [<-HW.out];clear HW CR h1;exact Mz.retA C6.m 0 rfl results144 rfl rfl ⟨_,underlying116⟩ (by kernel_rfl) (by rw [HGE.out];exact⟨x1,y1,z1,rfl,C6.m.gr.fresh,C6.past 0 rfl⟩)
theorem zLX {a b c:Value} {cs:List Tr.C} {cl:Tr.C} {d:Nat} (hX:XC a b c cs cl d) (hF:a.oneCell'=true/\b.oneCell'=true/\c.oneCell'=true) (e:Tr.E) (hk:e.kind=10) (hd:e.deep<=d+1) (hv:Tr.zE e=true) {v x y z:Value} {g:Co.G} {w:World} {l:List Nat} {m:Nat} (hl:∀q∈l,q<w.heap.size) (hr:RG x y z g (hide (upL 0 l) w)) (hf:RF a b cs cl (hide (upL 0 l) w)) (he:RE v e.args (hide (upL 0 l) w)) (hbd:Co.Bd m g/\m+Co.wEs e.args+9<=900000) (op endv:Int):
 Calls prog 173 #[.agg (gC a cl b c x y z g),zK e v,.int .i64 op,.int .i64 endv] w (GP a b c cl l (Co.gL cs cl.fields g op endv e.args) w):=by
 obtain⟨k,o,i,nm,at_,es⟩:=e;have hk:k=10:=hk;subst hk;have hl2:es.length=2:=by
  have h9:=(Co.zN hv).2;unfold Tr.okE at h9;simp at h9;omega
 obtain⟨x1,x2,rfl⟩:∃x y,es= [x,y]:=by
  match es,hl2 with
  | [x,y],_=>exact ⟨x,y,rfl⟩
 have HVX:=zh (zH (Co.zN hv).1 (j:=0) (e:=x1) rfl);have HVY:=zh (zH (Co.zN hv).1 (j:=1) (e:=x2) rfl);have HDX:=zh (Tr.E.deep_args hd (j:=0) (x:=x1) rfl);have HDY:=zh (Tr.E.deep_args hd (j:=1) (x:=x2) rfl);have HT:Hid (m+(Co.wE x1+Co.wE x2)+9<=900000):=zh (by have h9:=hbd.2;change m+Co.wEs [x1,x2]+9<=900000 at h9;rw [Co.wEs,Co.wEs,Co.wEs] at h9;omega);have HX:=zh hX;have HF:=zh hF;have HB0:=zh hbd.1;obtain⟨p,c2,rfl,_⟩:=he.form;obtain⟨b_,oo,rfl⟩:∃b oo,p=some ⟨b,oo,none⟩:=by
  obtain⟨b,oo,_,e,_⟩:=SlE.get he (j:=0) (e:=x1) rfl;exact⟨b,oo,e⟩
 obtain⟨px,cx,hx9,_⟩:=hr.code.form;subst hx9;have C0:=zh (Mh.start (os:= [RG (.slice px g.code.length cx) y z g,RF a b cs cl,RE (.slice (some ⟨b_,oo,none⟩) 2 c2) [x1,x2]]) hl (fun r h=>by
  simp only [kV,List.not_mem_nil,or_false] at h;rcases h with rfl|rfl|rfl
  ·exact⟨rg_mn,hr⟩
  ·exact⟨rf_mn,hf⟩
  ·exact⟨re_mn,he⟩))
 clear hX hF hd hv hbd hl hr hf he hl2;unfold zK;simp only [Tr.E.kind,Tr.E.op,Tr.E.int,Tr.E.name,Tr.E.at_,Tr.E.args];obtain⟨G,w1,HX1,HW1,hx1,C1⟩:=C0.boxE (gC a cl b c (.slice px g.code.length cx) y z g) 116;obtain⟨E,w2,HX2,HW2,hx2,C2⟩:=C1.boxE (#[.int .i64 10,.int .i64 o,.int .i64 i,.string nm,.bool at_,.slice (some ⟨b_,oo,none⟩) 2 c2]) 37;have HY2:Hid (E=G+1):=zh (by rw [HX2.out,HW1.out,HX1.out];simp);obtain⟨R,w3,HX3,HW3,hx3,C3⟩:=C2.boxE zro 116;have HY3:Hid (R=E+1):=zh (by rw [HX3.out,HW2.out,HX2.out];simp);go_in;go_upto_region 1 with fail;rw [<-HX1.out,<-HW1.out,<-HY2.out,<-HW2.out,<-HY3.out,<-HW3.out];clear HX1 HW1 C0 HY2 HX2 HW2 C1 HY3 HX3 HW3 C2;obtain⟨eb9,eo9,pa4,ca4,hp9,hbe4,C4⟩:=C3.elem 2 rfl (j:=0) (x:=x1) rfl;injection hp9 with e7
 injection e7 with e7 e8
 subst e7 e8;have HBE4:=zh hbe4;clear C3 hbe4;obtain⟨w5,HW,C5⟩:=C4.drewE;refine wp_region_held_drew (S:=fun W=>W.cell? ⟨E,5,none⟩=some (.slice (some ⟨b_,oo,none⟩) 2 c2)/\E6 b_ (oo) x1 (.slice pa4 x1.args.length ca4) W) (by kernel_rfl) (by rw [<-HW.out];exact⟨zB (C5.b 1 rfl) (j:=5) rfl,(C5.rd 0 rfl)⟩) (fun hH=>?_);rw [<-HW.out] at hH |-;clear HW C4;refine rU 1 (some 12) ?_;refine rU 2 (some 13) ?_;refine rU 3 (some 14) ?_;refine rU 4 (some 15) ?_;clear hH;refine rR1 0 (some 11) (fun K hK=>?_);rw [kD (by rfl)];refine glw (C5.b 2 rfl) ?_;refine hK _ _ (⟨zB (C5.b 1 rfl) (j:=5) rfl,(C5.rd 0 rfl)⟩) (fun hH=>?_);clear hK K hH
 try simp only [Act.put]
 refine rR1 5 (some 16) (fun K hK=>?_);go_simp;have hk:=HX x1 (.slice pa4 x1.args.length ca4) (.slice px g.code.length cx) y z g w5 _ _ HDX HVX HBE4 C5.all (C5.o 2 rfl) (C5.o 3 rfl) (C5.o 1 rfl) ⟨HB0,by have h9:=HT.out;omega⟩;unfold zK at hk;refine C5.gc hk (Co.gE_bd cs cl.fields _ _ x1 HB0) ?_;rintro g6 y6 z6 px6 cx6 w6 HG6 HB6 C6;clear hk C5;go_wp2;refine hK _ _ (⟨zB (C6.b 1 rfl) (j:=5) rfl,(C6.rd 1 rfl)⟩) (fun hH=>?_);clear hK K hH
 try simp only [Act.put]
 refine rR1 6 none (fun K hK=>?_);rw [kD (by rfl)];refine C6.gw2 HF 0 rfl (fun w7 C7=>?_);clear C6;refine hK _ _ (⟨zB (C7.b 1 rfl) (j:=5) rfl,(C7.rd 1 rfl)⟩) (fun hH=>?_);clear hK K hH
 try simp only [Act.put]
 refine wpAnyH_done (by kernel_rfl) ?_ _;have qg:=zAC (C7.b 2 rfl);go_upto_region 3 with fail;clear qg;go_wp2_with (refine gl (C7.b 2 rfl) ?_);refine C7.em HF 0 rfl HB6 (by have h9:=HT.out;omega) op 0 0 1 0 (m:=1) (by omega) ?_;rintro g8 y8 z8 px8 cx8 w8 HG8 HB8 C8;clear C7;go_upto_region 4 with (refine C8.gs2 HF 0 rfl ?_;intro w9 C9);clear C8;obtain⟨eb9,eo9,pa10,ca10,hp9,hbe10,C10⟩:=C9.elem 6 rfl (j:=1) (x:=x2) rfl;injection hp9 with e7
 injection e7 with e7 e8
 subst e7 e8;have HBE10:=zh hbe10;clear C9 hbe10;obtain⟨w11,HW,C11⟩:=C10.drewE;refine wp_region_held_drew (S:=fun W=>W.cell? ⟨E,5,none⟩=some (.slice (some ⟨b_,oo,none⟩) 2 c2)/\E6 b_ (oo+6) x2 (.slice pa10 x2.args.length ca10) W) (by kernel_rfl) (by rw [<-HW.out];exact⟨zB (C11.b 1 rfl) (j:=5) rfl,(C11.rd 0 rfl)⟩) (fun hH=>?_);rw [<-HW.out] at hH |-;clear HW C10;refine rU 1 (some 24) ?_;refine rU 2 (some 25) ?_;refine rU 3 (some 26) ?_;refine rU 4 (some 27) ?_;clear hH;refine rR1 0 (some 23) (fun K hK=>?_);rw [kD (by rfl)];refine glw (C11.b 2 rfl) ?_;refine hK _ _ (⟨zB (C11.b 1 rfl) (j:=5) rfl,(C11.rd 0 rfl)⟩) (fun hH=>?_);clear hK K hH
 try simp only [Act.put]
 refine rR1 5 (some 28) (fun K hK=>?_);go_simp;have hk:=HX x2 (.slice pa10 x2.args.length ca10) (.slice px8 g8.code.length cx8) y8 z8 g8 w11 _ _ HDY HVY HBE10 C11.all (C11.o 2 rfl) (C11.o 7 rfl) (C11.o 1 rfl) ⟨HB8,by have h9:=HT.out;omega⟩;unfold zK at hk;refine C11.gc hk (Co.gE_bd cs cl.fields _ _ x2 HB8) ?_;rintro g12 y12 z12 px12 cx12 w12 HG12 HB12 C12;clear hk C11;go_wp2;refine hK _ _ (⟨zB (C12.b 1 rfl) (j:=5) rfl,(C12.rd 1 rfl)⟩) (fun hH=>?_);clear hK K hH
 try simp only [Act.put]
 refine rR1 6 none (fun K hK=>?_);rw [kD (by rfl)];refine C12.gw2 HF 0 rfl (fun w13 C13=>?_);clear C12;refine hK _ _ (⟨zB (C13.b 1 rfl) (j:=5) rfl,(C13.rd 1 rfl)⟩) (fun hH=>?_);clear hK K hH
 try simp only [Act.put]
 refine wpAnyH_done (by kernel_rfl) ?_ _;go_wp2_with (refine gl (C13.b 2 rfl) ?_);refine C13.em HF 0 rfl HB12 (by have h9:=HT.out;omega) 17 0 0 1 1 (m:=1) (by omega) ?_;rintro g14 y14 z14 px14 cx14 w14 HG14 HB14 C14;clear C13;go_upto_region 6 with (refine C14.gs2 HF 0 rfl ?_;intro w15 C15);clear C14;have qg:=zAC (C15.b 2 rfl);go_upto_region 7 with fail;clear qg;go_wp2_with (refine gl (C15.b 2 rfl) ?_);refine C15.em HF 0 rfl HB14 (by have h9:=HT.out;omega) 18 0 0 0 0 (m:=1) (by omega) ?_;rintro g16 y16 z16 px16 cx16 w16 HG16 HB16 C16;clear C15;go_upto_region 8 with (refine C16.gs2 HF 0 rfl ?_;intro w17 C17);clear C16;obtain⟨g18,hg18⟩:∃q,({ g16 with depth:=g16.depth -1 }:Co.G)=q:=⟨_,rfl⟩;have hdep:=HB16.dep;have ht9:=HT.out;have hcl:g16.code.length=g18.code.length:=by rw [<-hg18]
 have hrr:RG (.slice px16 g16.code.length cx16) y16 z16 g18 (hide (upL 0 (l++ [R,E,G])) w17):=by rw [<-hg18];exact⟨(C17.o 0 rfl).code,(C17.o 0 rfl).names,(C17.o 0 rfl).vars⟩
 have CG:=zh (C17.get rg_mn hrr);have HB18:Hid (Co.Bd (m+Co.wE x1+1+1+Co.wE x2+1+1+1+1+1) g18):=zh (by rw [<-hg18];exact HB16.less);have qg:=zAC (CG.b 2 rfl);go_upto_region 9 with fail;have hgw:=zW w17 G 9 (.int .i64 (g16.depth -1));have hgh:=heap_set (j:=9) (.int .i64 (g16.depth -1)) (CG.b 2 rfl);obtain⟨w19,HW⟩:∃q,Hid (q=w17.setCell ⟨G,9,none⟩ (.int .i64 (g16.depth -1))):=⟨_,zh rfl⟩;rw [<-HW.out] at hgw hgh |-;have C19:=zh ((CG.set 2 rfl hgw hgh).nrm (bs':= [(R,zro,116),(E,#[.int .i64 10,.int .i64 o,.int .i64 i,.string nm,.bool at_,.slice (some ⟨b_,oo,none⟩) 2 c2],37),(G,gC a cl b c (.slice px16 g16.code.length cx16) y16 z16 g18,116)]) (by rw [<-hg18];rfl));have HG18:=zh hg18;clear hg18 hdep ht9 hcl hrr CG C17 qg hgw hgh HW;go_wp2_with (refine gl (C19.b 2 rfl) ?_);refine C19.pa HF 0 rfl HB18 (by have h9:=HT.out;omega) (k:=g6.code.length) (by have h1:=HG16.out;have h2:=HG14.out;have h3:=HG8.out;have h4:=HG12.out;have h5:=HG18.out;rw [<-h5,<-h1,<-h2];have h6:=zH9 cs cl.fields [x2] g8;rw [Co.gEs,Co.gEs,h4] at h6;rw [<-h3] at h6;simp only [Co.emit,kN,List.length_singleton] at h6 |-;omega) ?_;rintro g20 y20 z20 px20 cx20 w20 HG20 HB20 C20;clear C19;go_upto_region 10 with (refine C20.gs2 HF 0 rfl ?_;intro w21 C21);clear C20;go_wp2_with (refine gl (C21.b 2 rfl) ?_);refine C21.em HF 0 rfl HB20 (by have h9:=HT.out;omega) 0 endv 0 0 1 (m:=1) (by omega) ?_;rintro g22 y22 z22 px22 cx22 w22 HG22 HB22 C22;clear C21;go_upto_region 11 with (refine C22.gs2 HF 0 rfl ?_;intro w23 C23);clear C22;go_wp2_with (refine gl (C23.b 2 rfl) ?_);refine C23.pa HF 0 rfl HB22 (by have h9:=HT.out;omega) (k:=g14.code.length) (by have h1:=HG16.out;have h5:=HG18.out;have h6:=HG20.out;have h7:=HG22.out;rw [<-h7,<-h6,<-h5,<-h1];simp only [Co.emit,Co.patch,kN,List.length_singleton,List.length_modify];omega) ?_;rintro g24 y24 z24 px24 cx24 w24 HG24 HB24 C24;clear C23;go_wp2_with (refine C24.gs0 HF 0 rfl ?_;intro w25 C25);clear C24;have HFIN:Hid (Co.gL cs cl.fields g op endv [x1,x2]=g24):=zh (by rw [Co.gL,Co.gEs,Co.gEs];rw [HG6.out,HG8.out,HG12.out,HG14.out,HG16.out,HG18.out,HG20.out,HG22.out,HG24.out]);exact C25.ge 0 rfl 0 rfl results173 HFIN
end Cw
end
section
namespace Co
open Tr
def pops (o b:Int):Int:=
 if o=4\/o=5\/o=6\/o=9\/o=12\/o=13\/o=14\/o=15\/o=17\/o=19\/o=20\/o=22 then 1
 else if o=8\/o=16\/o=23\/o=24 then 2
 else if o=10 then b else if o=11\/o=21 then b+1 else 0
def pushes (o:Int):Int:=if o=0\/o=1\/o=2\/o=3\/o=6\/o=7\/o=10\/o=11\/o=12\/o=13\/o=14\/o=15\/o=16\/o=17 then 1 else 0
abbrev Jp (o:Int):Prop:=o=18\/o=19\/o=20
structure Fl (c:List Ins) (D:List Int) (p:Nat->Prop) (m:Int):Prop where
 len:D.length=c.length+1
 nn:∀(i:Nat) (d:Int),D[i]? =some d->0<=d/\d<=m
 pop:∀(i:Nat) (o a b d:Int),c[i]? =some (o,a,b)->D[i]? =some d->pops o b<=d
 fall:∀(i:Nat) (o a b d:Int),c[i]? =some (o,a,b)->D[i]? =some d->o≠18->o≠25->D[i+1]? =some (d -pops o b+pushes o)
 jump:∀(i:Nat) (o a b d:Int),c[i]? =some (o,a,b)->D[i]? =some d->Jp o->¬p i->0<=a/\D[a.toNat]? =some (d -pops o b+pushes o)
theorem zIO {α:Type} {l:List α} {x y:α} {i:Nat} (h:(l++ [x])[i]? =some y):l[i]? =some y\/(i=l.length/\y=x):=by
 rcases Nat.lt_or_ge i l.length with hl|hl
 ·rw [List.getElem?_append_left hl] at h;exact .inl h
 ·rw [List.getElem?_append_right hl] at h;have h2:i -l.length=0:=by
   rcases Nat.eq_zero_or_pos (i -l.length) with e|e
   ·exact e
   ·rw [List.getElem?_eq_none (by rw [List.length_singleton];omega)] at h;cases h
  rw [h2] at h;exact .inr ⟨by omega,by injection h with h;exact h.symm⟩
theorem zN5 {α:Type} {l:List α} {x:α} {i:Nat} (h:l[i]? =some x):i<l.length:=(kJ.1 h).1
theorem zM6 {α:Type} {l t:List α} {x:α} {i:Nat} (h:l[i]? =some x):(l++t)[i]? =some x:=by
 rw [List.getElem?_append_left (zN5 h)];exact h
theorem zRG {α:Type} (l:List α) (x:α) {n:Nat} (h:n=l.length):(l++ [x])[n]? =some x:=by
 rw [List.getElem?_append_right (by omega),h,Nat.sub_self]
 rfl
section
variable {c:List Ins} {D:List Int} {p p':Nat->Prop} {m:Int}
theorem Fl.add (h:Fl c D p m) {d d' m' o a b:Int} (hd:D[c.length]? =some d) (hp:pops o b<=d) (h0:0<=d') (hm:d'<=m') (hmm:m<=m') (hf:o≠18->o≠25->d'=d -pops o b+pushes o) (hj:Jp o->¬p' c.length->0<=a/\(D++ [d'])[a.toNat]? =some (d -pops o b+pushes o)) (hpp:∀i,i<c.length->p i->p' i):Fl (c++ [(o,a,b)]) (D++ [d']) p' m':=by
 have hl:=h.len;refine⟨by rw [kN,kN,hl];rfl,fun i e he=>?_,fun i o1 a1 b1 e hc he=>?_,fun i o1 a1 b1 e hc he h18 h25=>?_,fun i o1 a1 b1 e hc he hJ hnp=>?_⟩
 ·rcases zIO he with he|⟨_,rfl⟩
  ·have:=h.nn i e he;omega
  ·exact⟨h0,hm⟩
 all_goals have hlt:=zN5 hc
 all_goals rw [kN,List.length_singleton] at hlt
 all_goals rw [List.getElem?_append_left (by omega)] at he
 ·rcases zIO hc with hc|⟨rfl,e1⟩
  ·exact h.pop i _ _ _ _ hc he
  ·cases e1;rw [hd] at he;cases he;exact hp
 ·rcases zIO hc with hc|⟨rfl,e1⟩
  ·exact zM6 (h.fall i _ _ _ _ hc he h18 h25)
  ·cases e1;rw [hd] at he;cases he;rw [<-hf h18 h25];exact zRG _ _ hl.symm
 ·rcases zIO hc with hc|⟨rfl,e1⟩
  ·have h1:=h.jump i _ _ _ _ hc he hJ (fun hq=>hnp (hpp i (zN5 hc) hq));exact⟨h1.1,zM6 h1.2⟩
  ·cases e1;rw [hd] at he;cases he;exact hj hJ hnp
theorem zED {i j:Nat} {n o a b:Int} (h:(c.modify i fun x=>(x.1,n,x.2.2))[j]? =some (o,a,b)):∃a2,c[j]? =some (o,a2,b)/\((j=i/\a=n)\/(j≠i/\a2=a)):=by
 rw [List.getElem?_modify] at h;cases hx:c[j]? with
 |none=>rw [hx] at h;cases h
 |some x=>
  rw [hx] at h;by_cases e:i=j
  ·subst e;have h1:some (if i=i then(x.1,n,x.2.2) else x)=some (o,a,b):=h;rw [kD rfl] at h1;cases h1;exact⟨x.2.1,rfl,.inl ⟨rfl,rfl⟩⟩
  ·have h1:some (if i=j then(x.1,n,x.2.2) else x)=some (o,a,b):=h;rw [kC e] at h1;cases h1;exact⟨a,rfl,.inr ⟨fun e2=>e e2.symm,rfl⟩⟩
theorem Fl.patch (h:Fl c D p m) {i:Nat} {o a b d:Int} (hc:c[i]? =some (o,a,b)) (hD:D[i]? =some d) (ht:D[c.length]? =some (d -pops o b+pushes o)) (hp:∀q,p q->q=i\/p' q):Fl (c.modify i fun x=>(x.1,(c.length:Int),x.2.2)) D p' m:=by
 refine⟨by rw [List.length_modify];exact h.len,h.nn,fun j o1 a1 b1 e hj he=>?_,fun j o1 a1 b1 e hj he h18 h25=>?_,fun j o1 a1 b1 e hj he hJ hnp=>?_⟩
 ·obtain⟨a2,h1,_⟩:=zED hj;exact h.pop j _ _ _ _ h1 he
 ·obtain⟨a2,h1,_⟩:=zED hj;exact h.fall j _ _ _ _ h1 he h18 h25
 ·obtain⟨a2,h1,h2⟩:=zED hj;rcases h2 with ⟨rfl,rfl⟩|⟨h2,rfl⟩
  ·rw [hc] at h1;cases h1;rw [hD] at he;cases he;exact⟨by omega,by rw [Int.toNat_natCast];exact ht⟩
  ·exact h.jump j _ _ _ _ h1 he hJ (fun hq=>(hp j hq).elim h2 hnp)
end
inductive Fin (cs:List C) (fs:List BA) (nn ln cl:Nat) (lg:Bool):Ins->Prop
 |push (n:Int) (h: -2305843009213693952<=n) (h2:n<=2305843009213693951):Fin cs fs nn ln cl lg (0,n,0)
 |flat (o:Int) (h:o=1\/o=2\/o=12\/o=13\/o=14\/o=15\/o=17\/o=22\/o=23\/o=25):Fin cs fs nn ln cl lg (o,0,0)
 |loc (o:Int) (n:Nat) (h:o=3\/o=4) (h2:n<ln):Fin cs fs nn ln cl lg (o,(n:Int),0)
 |nam (o:Int) (n:Nat) (h:o=6\/o=8\/o=24) (h2:n<nn):Fin cs fs nn ln cl lg (o,(n:Int),0)
 |snd (n:Nat) (b:Int) (h2:n<nn) (h:0<=b) (h3:lg=false->b<=8):Fin cs fs nn ln cl lg (21,(n:Int),b)
 |own (o:Int) (n:Nat) (h:o=7\/o=9) (h2:n<fs.length):Fin cs fs nn ln cl lg (o,(n:Int),0)
 |new (o:Int) (i:Nat) (c:C) (b:Int) (h:o=10\/o=11) (h2:cs[i]? =some c) (h3:0<=b) (h4:b<=c.fields.length):Fin cs fs nn ln cl lg (o,(i:Int)+1,b)
 |bin (o:Int) (h:0<=o) (h2:o<=10):Fin cs fs nn ln cl lg (16,o,0)
 |jmp (o:Int) (n:Nat) (h:Jp o) (h2:n<=cl):Fin cs fs nn ln cl lg (o,(n:Int),0)
section
variable {cs:List C} {fs:List BA}
theorem Fin.mono {nn ln cl nn' ln' cl':Nat} {lg lg':Bool} {x:Ins} (h:Fin cs fs nn ln cl lg x) (h1:nn<=nn') (h2:ln<=ln') (h3:cl<=cl') (h4:lg'=false->lg=false):Fin cs fs nn' ln' cl' lg' x:=by
 cases h with
 |push n a b=>exact .push n a b
 |flat o a=>exact .flat o a
 |loc o n a b=>exact .loc o n a (by omega)
 |nam o n a b=>exact .nam o n a (by omega)
 |snd n b a d e=>exact .snd n b (by omega) d (fun q=>e (h4 q))
 |own o n a b=>exact .own o n a b
 |new o i c b h a d e=>exact .new o i c b h a d e
 |bin o a b=>exact .bin o a b
 |jmp o n a b=>exact .jmp o n a (by omega)
structure Sd (cs:List C) (fs:List BA) (p:Nat->Prop) (g:G) (D:List Int):Prop where
 fl:Fl g.code D p g.most
 top:D[g.code.length]? =some g.depth
 ins:∀(i:Nat) (x:Ins),g.code[i]? =some x->Fin cs fs g.names.length g.locals g.code.length g.large x
 nums:∀v∈g.vars,v.2<g.locals
variable {p p':Nat->Prop} {g h:G} {D:List Int}
theorem Sd.nn (s:Sd cs fs p g D):0<=g.depth/\g.depth<=g.most:=s.fl.nn _ _ s.top
theorem zU9 {c:List Ins} {x:Ins} {P:Ins->Prop} (h:∀(i:Nat) (y:Ins),c[i]? =some y->P y) (hx:P x):∀(i:Nat) (y:Ins),(c++ [x])[i]? =some y->P y:=fun i y hy=>by
 rcases zIO hy with hy|⟨_,rfl⟩
 ·exact h i y hy
 ·exact hx
theorem Sd.back (s:Sd cs fs p g D) {n:Nat} (hn:D[n]? =some g.depth):Sd cs fs p (emit g 18 (n:Int) 0 0 0) (D++ [g.depth -0+0]):=by
 have h1:=s.nn;have hm1:g.depth -0+0<=max g.most (g.depth -0+0):=by omega
 have hm2:g.most<=max g.most (g.depth -0+0):=by omega
 have h3:=zN5 hn;rw [s.fl.len] at h3;refine⟨s.fl.add s.top (by show pops 18 0<=_;rw [show pops 18 0=0 from by decide];omega) (by omega) hm1 hm2 (fun hx=>absurd rfl hx) (fun _ _=>⟨by omega,?_⟩) (fun i _ hi=>hi),zRG _ _ (by rw [zBJ,s.fl.len]),?_,s.nums⟩
 ·rw [Int.toNat_natCast];refine(zM6 hn).trans ?_;rw [show pops 18 0=0 from by decide,show pushes 18=0 from by decide]
  congr 1
  omega
 ·rw [zBJ];exact zU9 (fun i x hx=>(s.ins i x hx).mono (kL _) (kL _) (Nat.le_succ _) id) (.jmp 18 n (.inl rfl) (by omega))
theorem Sd.patch (s:Sd cs fs p g D) {i:Nat} {o a d:Int} (hc:g.code[i]? =some (o,a,0)) (hD:D[i]? =some d) (ho:Jp o) (ht:g.depth=d -pops o 0) (hp:∀q,p q->q=i\/p' q):Sd cs fs p' (patch g i) D:=by
 have hq:pushes o=0:=by rcases ho with rfl|rfl|rfl<;>decide
 refine⟨s.fl.patch hc hD (by rw [s.top,hq,ht];congr 1;omega) hp,by rw [zC8];exact s.top,fun j x hx=>?_,s.nums⟩;rw [zC8];obtain⟨x1,x2,x3⟩:=x;obtain⟨a2,h1,h2⟩:=zED hx;rcases h2 with ⟨rfl,rfl⟩|⟨_,rfl⟩
 ·rw [hc] at h1;cases h1;exact .jmp _ _ ho (kL _)
 ·exact s.ins j _ h1
theorem Sd.shut (s:Sd cs fs p h D) (h0:∀v∈g.vars,v.2<g.locals) (hl:g.locals<=h.locals):Sd cs fs p (shut g h) D:=⟨s.fl,s.top,s.ins,fun v hv=>kP (h0 v hv) hl⟩
theorem Sd.lg (s:Sd cs fs p g D) (b:Bool):Sd cs fs p { g with large:=g.large||b } D:=
 ⟨s.fl,s.top,fun i x hx=>(s.ins i x hx).mono (kL _) (kL _) (kL _) (fun hq=>(Bool.or_eq_false_iff.1 hq).1),s.nums⟩
theorem Sd.name (s:Sd cs fs p g D) (nm:BA):Sd cs fs p (name g nm).1 D/\(name g nm).2<(name g nm).1.names.length/\(name g nm).1.depth=g.depth/\(name g nm).1.vars=g.vars/\(name g nm).1.code=g.code:=by
 unfold Co.name
 split
 ·rename_i i hi;exact⟨s,(List.findIdx?_eq_some_iff_getElem.1 hi).1,rfl,rfl,rfl⟩
 ·refine⟨⟨s.fl,s.top,fun i x hx=>(s.ins i x hx).mono ?_ (kL _) (kL _) id,s.nums⟩,?_,rfl,rfl,rfl⟩
  ·show _<=(g.names++ [nm]).length
   rw [kN];omega
  ·show g.names.length<(g.names++ [nm]).length
   rw [kN,List.length_singleton];omega
def Nx (cs:List C) (fs:List BA) (p:Nat->Prop) (g h:G) (D:List Int) (k:Int):Prop:=∃D',Sd cs fs p h (D++D')/\h.depth=g.depth+k
theorem Sd.nx (s:Sd cs fs p g D):Nx cs fs p g g D 0:=⟨[],by rw [List.append_nil];exact s,by omega⟩
end
end Co
end
section
namespace Co
open Tr
theorem zP8 (e:E):(top e).kind=2↔e.kind=2:=by
 rcases zGX e with h|⟨n,h⟩
 ·rw [h]
 ·cases e with
  |mk k o i nm a l=>
   by_cases hk:k=8\/k=9\/k=10
   ·constructor
    ·intro h2;rw [h] at h2;rcases zCK (.mk k o i nm a l) n with h3|⟨_,h3⟩|⟨_,_,h3⟩
     ·rw [h3] at h2;exact h2
     ·rw [h3] at h2;exact absurd h2 (by show ¬(0:Int)=2;decide)
     ·rw [h3] at h2;exact absurd h2 (by show ¬(8:Int)=2;decide)
    ·intro h2;have h3:k=2:=h2;omega
   ·have h4:top (.mk k o i nm a l)= .mk k o i nm a l:=by
     unfold top;exact kC hk
    rw [h4]
theorem zPP (e:E):(fold e).kind=2↔e.kind=2:=by
 cases e with
 |mk k o i nm a l=>
  rw [fold];exact zP8 _
theorem zPO (l:List E):Ck.zA9 (zG l)=2↔Ck.zA9 l=2:=by
 cases l with
 |nil=>rw [zG]
 |cons e r=>rw [zG];exact zPP e
theorem zJO (cs:List C) (fs vs:List BA) (n:Int) (t:Nat):Ck.faultE cs fs vs (num n) t=false:=by
 unfold num;rw [Ck.faultE,Ck.zAA]
 rfl
theorem zPV {cs:List C} {fs vs:List BA} {e:E} {t:Nat} (h:Ck.faultE cs fs vs e t=false):Ck.faultE cs fs vs (top e) t=false:=by
 rcases zGX e with h1|⟨n,h1⟩
 ·rw [h1];exact h
 ·rw [h1];rcases zCK e n with h2|⟨_,h2⟩|⟨_,_,h2⟩
  ·rw [h2];exact h
  ·rw [h2];exact zJO ..
  ·rw [h2,Ck.faultE,Ck.zAA,Ck.zAA,zJO]
   rfl
theorem zOY (cs:List C) (fs vs:List BA) (k:Int) (nm:BA) (a:Bool) (l:List E) (t:Nat):Ck.ownE cs fs vs k nm a (zG l) t=Ck.ownE cs fs vs k nm a l t:=by
 unfold Ck.ownE;rw [zAG];have h:decide (Ck.zA9 (zG l)=2)=decide (Ck.zA9 l=2):=decide_eq_decide.2 (zPO l);rw [h]
mutual
theorem zNE (cs:List C) (fs vs:List BA) (t:Nat):∀e:E,Ck.faultE cs fs vs e t=false->Ck.faultE cs fs vs (fold e) t=false
 | .mk k o i nm a l,h=>by
   rw [Ck.faultE,Bool.or_eq_false_iff] at h;rw [fold];refine zPV ?_;rw [Ck.faultE,zOY,h.1,zDS cs fs vs t l h.2]
   rfl
theorem zDS (cs:List C) (fs vs:List BA) (t:Nat):∀l:List E,Ck.zAA cs fs vs l t=false->Ck.zAA cs fs vs (zG l) t=false
 | [],h=>by rw [zG];exact h
 |e::r,h=>by
  rw [Ck.zAA,Bool.or_eq_false_iff] at h;rw [zG,Ck.zAA,zNE cs fs vs t e h.1,zDS cs fs vs t r h.2]
  rfl
end
structure Cl (cs:List C) (fs vs:List BA) (l:List E):Prop where
 ok:zT l=true
 no:∀t,t<13->Ck.zAA cs fs vs l t=false
section
variable {cs:List C} {fs vs:List BA}
theorem Cl.fold {l:List E} (h:Cl cs fs vs l):Cl cs fs vs (zG l):=⟨zU l h.ok,fun t ht=>zDS cs fs vs t l (h.no t ht)⟩
theorem Cl.cons {e:E} {l:List E} (h:Cl cs fs vs (e::l)):(zE e=true/\∀t,t<13->Ck.faultE cs fs vs e t=false)/\Cl cs fs vs l:=by
 have h1:=h.ok;rw [zT,kW] at h1;have h2:∀t,t<13->Ck.faultE cs fs vs e t=false/\Ck.zAA cs fs vs l t=false:=fun t ht=>by
  have:=h.no t ht;rw [Ck.zAA,Bool.or_eq_false_iff] at this;exact this
 exact⟨⟨h1.1,fun t ht=>(h2 t ht).1⟩,h1.2,fun t ht=>(h2 t ht).2⟩
def Sc (vs:List BA) (g:G):Prop:=∀s,Ck.hasS vs s=true->∃v∈g.vars,v.1=s
theorem Sc.same {g h:G} (s:Sc vs g) (e:h.vars=g.vars):Sc vs h:=fun x hx=>by rw [e];exact s x hx
theorem zT4 {nm:BA} {i:Nat} (h:Ck.zAB cs nm=some i):∃c,cs[i]? =some c:=by
 unfold Ck.zAB at h;have:=(List.findIdx?_eq_some_iff_getElem.1 h).1;exact⟨cs[i],kB this⟩
theorem zU6 {k o i:Int} {nm:BA} {a:Bool} {n:Nat} (h:okE k o i nm a n=true):(k=4\/k=6\/k=7\/k=8\/k=9->n=1)/\(k=10->n=2/\0<=o/\o<=12)/\(k=5->a=true->0<n)/\0<=k/\k<=10:=by
 unfold okE at h;rw [kW] at h;have h2:=h.2;clear h
 repeat' split at h2
 all_goals simp only [kW,Bool.or_eq_true,Bool.not_eq_true',decide_eq_true_eq,Bool.false_eq_true] at h2
 all_goals (refine⟨fun hk=>?_,fun hk=>?_,fun hk ha=>?_,?_,?_⟩)
 all_goals first
  |omega
  |(exfalso;omega)
  |(rcases h2.2 with h3|h3
    ·rw [ha] at h3;cases h3
    ·exact h3)
  |skip
end
end Co
end
end Go.Proofs.YtcnmfcgmnkncaaaGreatDoor
