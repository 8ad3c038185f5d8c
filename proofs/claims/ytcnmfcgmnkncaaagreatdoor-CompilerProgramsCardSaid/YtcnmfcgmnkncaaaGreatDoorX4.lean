/-
  CoBud, LexRefA, TrForm, LexSpec2, TrTok, LexRefB, LexRefC, LexRefD, LexRefE, LexRefF, LexRefG, LexRefH, Shelf.
-/
import Derived.Test.YtcnmfcgmnkncaaaGreatDoorX3
import Derived.Lib.Strings
import Derived.Deep.RegionHeld3
import Derived.Deep.QuietTactic
import Derived.BigQuiet
import Derived.IntWalk
import Derived.Laws.StructEq
import Derived.Shelf.Strings.OnBuilder
import Derived.Shelf.Strings.Trim
import Derived.Shelf.Small.Strs
import Derived.Shelf.Strings.Prefix
import Derived.Shelf.Strings.Search3
import Derived.Shelf.Strconv.ParseIntPublic10
import Derived.Shelf.Slices.Turned
import Derived.Shelf.Slices.Clone
set_option maxRecDepth 100000
set_option maxHeartbeats 40000000
open Go.Proofs.Tryz
namespace Go.Proofs.YtcnmfcgmnkncaaaGreatDoor
namespace Co
open Tr
mutual
def wE:E->Nat
 | .mk _ _ _ _ _ l=>16+l.length+wEs l
def wEs:List E->Nat
 | []=>0
 |e::r=>wE e+wEs r
end
mutual
def wS:S->Nat
 | .mk _ _ x b l=>32+x.length+wEs x+wSs b+wSs l
def wSs:List S->Nat
 | []=>0
 |s::r=>wS s+wSs r
end
structure Bd (n:Nat) (g:G):Prop where
 code:g.code.length<=n
 names:g.names.length<=n
 vars:g.vars.length<=n
 nums:∀x∈g.vars,x.2<=n
 locals:g.locals<=n
 dep: -(n:Int)<=g.depth/\g.depth<=n
 most: -(n:Int)<=g.most/\g.most<=n
section
variable {n m:Nat} {g:G}
theorem Bd.mono (h:Bd n g) (hm:n<=m):Bd m g:=
 ⟨kG h.code hm,kG h.names hm,kG h.vars hm,fun x hx=>kG (h.nums x hx) hm,kG h.locals hm,by have:=h.dep;omega,by have:=h.most;omega⟩
theorem Bd.em (h:Bd n g) {o a b p q:Int} (hp:0<=p/\p<=m) (hq:0<=q/\q<=m):Bd (n+m+1) (emit g o a b p q):=by
 have h1:=h.dep;have h2:=h.most;have h3:=h.code;refine⟨?_,kG h.names (by omega),kG h.vars (by omega),fun x hx=>kG (h.nums x hx) (by omega),kG h.locals (by omega),?_,?_⟩
 ·show(g.code++ [(o,a,b)]).length<=_
  rw [kN,List.length_singleton];omega
 ·show -((n+m+1:Nat):Int)<=g.depth -p+q/\g.depth -p+q<=_
  omega
 ·show -((n+m+1:Nat):Int)<=max g.most (g.depth -p+q)/\max g.most (g.depth -p+q)<=_
  omega
theorem Bd.patch (h:Bd n g) (i:Nat):Bd n (patch g i):=
 ⟨by show(g.code.modify i _).length<=n;rw [List.length_modify];exact h.code,h.names,h.vars,h.nums,h.locals,h.dep,h.most⟩
theorem Bd.name (h:Bd n g) (s:BA):Bd (n+1) (name g s).1:=by
 unfold Co.name
 split
 ·exact h.mono (by omega)
 ·have h3:=h.names;have h4:=h.mono (m:=n+1) (by omega);exact⟨h4.code,by show(g.names++ [s]).length<=_;rw [kN,List.length_singleton];omega,h4.vars,h4.nums,h4.locals,h4.dep,h4.most⟩
theorem Bd.less (h:Bd n g):Bd (n+1) { g with depth:=g.depth -1 }:=by
 have h4:=h.mono (m:=n+1) (by omega);have h1:=h.dep;exact⟨h4.code,h4.names,h4.vars,h4.nums,h4.locals,by show -((n+1:Nat):Int)<=g.depth -1/\g.depth -1<=_;omega,h4.most⟩
theorem Bd.decl (h:Bd n g) (nm:BA):Bd (n+1) { g with vars:=g.vars++ [(nm,g.locals)],locals:=g.locals+1 }:=by
 have h4:=h.mono (m:=n+1) (by omega);have hv:=h.vars;have hl:=h.locals;refine⟨h4.code,h4.names,?_,fun y hy=>?_,?_,h4.dep,h4.most⟩
 ·show(g.vars++ [(nm,g.locals)]).length<=_
  rw [kN,List.length_singleton];omega
 ·rcases kU.1 hy with hy|hy
  ·exact h4.nums y hy
  ·rw [kT.1 hy];exact h4.locals
 ·show g.locals+1<=_
  omega
theorem Bd.shut {g0:G} (h:Bd n g) (h0:Bd n g0):Bd n (shut g0 g):=⟨h.code,h.names,h0.vars,h0.nums,h.locals,h.dep,h.most⟩
end
mutual
theorem gE_bd (cs:List C) (fs:List BA):∀(n:Nat) (g:G) (e:E),Bd n g->Bd (n+wE e) (gE cs fs g e)
 |n,g,.mk k o i nm a l,h=>by
  have hs:=zBX cs fs n g l h;have h11:=gL_bd cs fs n g 19 0 l h;have h12:=gL_bd cs fs n g 20 1 l h;have e1:∀(u x y q:Int),0<=q/\q<=1->Bd (n+wE (.mk k o i nm a l)) (emit g u x y 0 q):=fun u x y q hq=>(h.em (m:=1) (o:=u) (a:=x) (b:=y) (p:=0) (q:=q) ⟨by omega,by omega⟩ ⟨by omega,by omega⟩).mono (by rw [wE];omega)
  have e2:∀(u x y p q:Int),0<=p/\p<=(l.length+2:Nat)->0<=q/\q<=(l.length+2:Nat)->Bd (n+wE (.mk k o i nm a l)) (emit (gEs cs fs g l) u x y p q):=fun u x y p q hp hq=>(hs.em (m:=l.length+2) hp hq).mono (by rw [wE];omega)
  have e3:∀(u x y p q:Int),0<=p/\p<=(l.length+2:Nat)->0<=q/\q<=(l.length+2:Nat)->Bd (n+wE (.mk k o i nm a l)) (emit (name (gEs cs fs g l) nm).1 u x y p q):=fun u x y p q hp hq=>((hs.name nm).em (m:=l.length+2) hp hq).mono (by rw [wE];omega)
  rw [gE]
  repeat' split
  all_goals first
   |exact e1 _ _ _ _ ⟨by omega,by omega⟩
   |exact e2 _ _ _ _ _ ⟨by omega,by omega⟩ ⟨by omega,by omega⟩
   |exact e3 _ _ _ _ _ ⟨by omega,by omega⟩ ⟨by omega,by omega⟩
   |exact h11.mono (by rw [wE];omega)
   |exact h12.mono (by rw [wE];omega)
theorem zBX (cs:List C) (fs:List BA):∀(n:Nat) (g:G) (l:List E),Bd n g->Bd (n+wEs l) (gEs cs fs g l)
 |n,g,[],h=>by rw [gEs];exact h
 |n,g,e::r,h=>by
  rw [gEs,wEs,<-Nat.add_assoc];exact zBX cs fs _ _ r (gE_bd cs fs n g e h)
theorem gL_bd (cs:List C) (fs:List BA):∀(n:Nat) (g:G) (j v:Int) (l:List E),Bd n g->Bd (n+wEs l+9) (gL cs fs g j v l)
 |n,g,j,v,[],h=>by rw [gL];exact h.mono (by omega)
 |n,g,j,v,x::r,h=>by
  have h1:=gE_bd cs fs n g x h;have h3:=zBX cs fs _ _ r (h1.em (o:=j) (a:=0) (b:=0) (p:=1) (q:=0) (m:=1) ⟨by omega,by omega⟩ ⟨by omega,by omega⟩);rw [gL,wEs];refine Bd.patch (Bd.mono ((((((h3.em (m:=1) (p:=1) (q:=1) ⟨by omega,by omega⟩ ⟨by omega,by omega⟩).em (m:=0) (p:=0) (q:=0) ⟨by omega,by omega⟩ ⟨by omega,by omega⟩).less).patch _).em (m:=1) (p:=0) (q:=1) ⟨by omega,by omega⟩ ⟨by omega,by omega⟩)) (by omega)) _
end
theorem zSU (l:List E) (k:Nat):wEs (l.take k)<=wEs l:=by
 induction l generalizing k with
 |nil=>simp
 |cons x r ih=>
  cases k with
  |zero=>rw [List.take_zero,wEs];omega
  |succ k=>rw [List.take_succ_cons,wEs,wEs];have:=ih k;omega
theorem zSV (l:List E) (k:Nat):wEs (l.drop k)<=wEs l:=by
 induction l generalizing k with
 |nil=>simp
 |cons x r ih=>
  cases k with
  |zero=>rw [List.drop_zero];omega
  |succ k=>rw [List.drop_succ_cons,wEs];have:=ih k;omega
theorem zUF (n:Int):wE (num n)=16:=by unfold num;rw [wE,wEs];rfl
theorem zUU {e:E} {n:Int} (h:33<=wE e):wE (repl e n)<=wE e:=by
 rcases zCK e n with h2|⟨_,h2⟩|⟨_,_,h2⟩
 ·rw [h2];exact kL _
 ·rw [h2,zUF];omega
 ·rw [h2,wE,wEs,wEs,zUF];exact h
theorem zUE (e:E):16<=wE e:=by cases e;rw [wE];omega
theorem wE_top (e:E):wE (top e)<=wE e:=by
 by_cases h:33<=wE e
 ·rcases zGX e with h1|⟨n,h1⟩
  ·rw [h1];exact kL _
  ·rw [h1];exact zUU h
 ·cases e with
  |mk k o i nm a l=>
   cases l with
   |nil=>
    have:top (.mk k o i nm a [])= .mk k o i nm a []:=by
     unfold top;dsimp only
     split<;>rfl
    rw [this];exact kL _
   |cons x r=>
    rw [wE,wEs] at h;have:=zUE x;rw [kI] at h;omega
mutual
theorem zBZ:∀e:E,wE (fold e)<=wE e
 | .mk k o i nm a l=>by
   rw [fold];refine kG (wE_top _) ?_;rw [wE,wE,zAG];have:=zAU l;omega
theorem zAU:∀l:List E,wEs (zG l)<=wEs l
 | []=>by rw [zG];exact kL _
 |e::r=>by
  rw [zG,wEs,wEs];have:=zBZ e;have:=zAU r;omega
end
mutual
theorem gS_bd (cs:List C) (fs:List BA):∀(n:Nat) (g:G) (s:S),Bd n g->Bd (n+wS s) (gS cs fs g s)
 |n,g,.mk k nm x b l,h=>by
  have hwf:=zAU x;have hlf:=zAG x;have e0:∀(o p q:Int),0<=p/\p<=1->0<=q/\q<=1->Bd (n+wS (.mk k nm x b l)) (emit g o 0 0 p q):=fun o p q hp hq=>(h.em (m:=1) hp hq).mono (by rw [wS];omega)
  have t1:Bd (n+wEs x) (gEs cs fs g ((zG x).take 1)):=(zBX cs fs n g ((zG x).take 1) h).mono (by have:=zSU (zG x) 1;omega);have d1:Bd (n+wEs x) (gEs cs fs g ((zG x).drop 1)):=(zBX cs fs n g ((zG x).drop 1) h).mono (by have:=zSV (zG x) 1;omega);have a1:Bd (n+wEs x) (gEs cs fs g (zG x)):=(zBX cs fs n g (zG x) h).mono (by omega);have a2:=a1.name nm;have em1:∀ {n':Nat} {g':G} (o a b p q:Int),Bd n' g'->0<=p/\p<=2->0<=q/\q<=2->Bd (n'+3) (emit g' o a b p q):=fun o a b p q hg hp hq=>(hg.em (m:=2) hp hq).mono (by omega)
  rw [gS,wS];dsimp only
  split
  ·have h1:=em1 4 g.locals 0 1 0 t1 ⟨by omega,by omega⟩ ⟨by omega,by omega⟩;exact(h1.decl nm).mono (by omega)
  ·split
   ·exact(em1 _ _ _ _ _ t1 ⟨by omega,by omega⟩ ⟨by omega,by omega⟩).mono (by omega)
   ·split
    ·split
     ·exact(em1 _ _ _ _ _ d1 ⟨by omega,by omega⟩ ⟨by omega,by omega⟩).mono (by omega)
     ·exact(em1 _ _ _ _ _ a2 ⟨by omega,by omega⟩ ⟨by omega,by omega⟩).mono (by omega)
    ·have h1:=em1 19 0 0 1 0 t1 ⟨by omega,by omega⟩ ⟨by omega,by omega⟩;have hb:=zDD cs fs _ _ b h1;have hsb:=hb.shut (h1.mono (by omega))
     split
     ·split
      ·exact(hsb.patch _).mono (by omega)
      ·have h2:=(em1 18 0 0 0 0 hsb ⟨by omega,by omega⟩ ⟨by omega,by omega⟩).patch (gEs cs fs g ((zG x).take 1)).code.length;have hl:=zDD cs fs _ _ l h2;exact((hl.shut (hsb.mono (by omega))).patch _).mono (by omega)
     ·split
      ·exact((em1 _ _ _ _ _ hsb ⟨by omega,by omega⟩ ⟨by omega,by omega⟩).patch _).mono (by omega)
      ·split
       ·have a3:Bd (n+wEs x+1) { (name (gEs cs fs g (zG x)) nm).1 with large:=(name (gEs cs fs g (zG x)) nm).1.large||decide (8<(zG x).length -1) }:=⟨a2.code,a2.names,a2.vars,a2.nums,a2.locals,a2.dep,a2.most⟩;exact(a3.em (m:=x.length) ⟨by omega,by omega⟩ ⟨by omega,by omega⟩).mono (by omega)
       ·split
        ·exact(em1 _ _ _ _ _ t1 ⟨by omega,by omega⟩ ⟨by omega,by omega⟩).mono (by omega)
        ·split
         ·exact(em1 _ _ _ _ _ a1 ⟨by omega,by omega⟩ ⟨by omega,by omega⟩).mono (by omega)
         ·split
          ·exact(em1 _ _ _ _ _ a2 ⟨by omega,by omega⟩ ⟨by omega,by omega⟩).mono (by omega)
          ·exact(em1 _ _ _ _ _ h ⟨by omega,by omega⟩ ⟨by omega,by omega⟩).mono (by omega)
theorem zDD (cs:List C) (fs:List BA):∀(n:Nat) (g:G) (l:List S),Bd n g->Bd (n+wSs l) (gSs cs fs g l)
 |n,g,[],h=>by rw [gSs];exact h
 |n,g,s::r,h=>by
  rw [gSs,wSs,<-Nat.add_assoc];exact zDD cs fs _ _ r (gS_bd cs fs n g s h)
end
end Co
end Go.Proofs.YtcnmfcgmnkncaaaGreatDoor
namespace Go.Proofs.YtcnmfcgmnkncaaaGreatDoor
open Go.RowKit
theorem zAF (a b:BA):(a.toList == b.toList)=decide (a=b):=by
 rw [Bool.eq_iff_iff,kX,decide_eq_true_eq]
 constructor
 ·intro h;have h2:a.data.toList=b.data.toList:=by rw [<-Lib.toList_data,<-Lib.toList_data];exact h
  cases a;cases b;simp only at h2;simp_all
 ·intro h;rw [h]
def inB (zs:Nat->BA) (x:BA) (n:Nat):Bool:=(List.range n).any fun j=>decide (zs j=x)
theorem zVA {zs:Nat->BA} {x:BA} {n k:Nat} (hk:k<n) (h:zs k=x):inB zs x n=true:=by
 unfold inB;rw [List.any_eq_true];exact⟨k,by simpa using hk,by simpa using h⟩
theorem inB_no {zs:Nat->BA} {x:BA} {n:Nat} (h:∀j,j<n->zs j≠x):inB zs x n=false:=by
 unfold inB;rw [List.any_eq_false];intro j hj;simpa using h j (by simpa using hj)
theorem zBT {a b:Bool} (h:a=b):Ending.returned (.bool a)= .returned (.bool b):=by rw [h]
theorem in_any (b off n c:Nat) (zs:Nat->BA) (x:BA) (w:World) (hn:n<=9223372036854775807) (hc:∀j,j<n->w.cell? ⟨b,off+j,none⟩=some (.string (zs j))):
 Calls prog 106 #[.slice (some ⟨b,off,none⟩) n c,.string x] w fun e w'=>e= .returned (.bool (inB zs x n))/\w=w':=by
 have H:=zh hc;clear hc;go_in;go_wp2
 go_loop [5] (fun i=>∃k:Nat,k<=n/\i= .int .i64 k/\∀j,j<k->zs j≠x) (fun i=>n -(intOf i).toNat)
 case atStart=>exact ⟨0,kO _,rfl,fun j hj=>by omega⟩
 case round=>
  obtain⟨k,hk,rfl,hno⟩:=hrel;have HN:=zh hno;clear hno;by_cases hlt:k<n
  ·have hcell:=H k hlt;by_cases he:zs k=x
   ·have hf:=zh he;have he':((zs k).toList == x.toList)=true:=by rw [zAF];simpa using he
    clear he;go_wp2;go_ret;exact⟨zBT (zVA hlt hf).symm,rfl⟩
   ·have hf:=zh he;have he':((zs k).toList == x.toList)=false:=by rw [zAF];simpa using he
    clear he;go_wp2;go_round
    case rel=>
     refine⟨k+1,by omega,by go_num,fun j hj=>?_⟩;by_cases e:j=k
     ·rw [e];exact hf
     ·exact HN j (by omega)
    case measure=>simp [intOf];omega
  ·go_wp2;go_ret;exact⟨zBT (inB_no fun j hj=>HN j (by omega)).symm,rfl⟩
theorem zLS (w:World):
 Calls prog 107 #[] w fun e w'=>e= .returned (.slice (some ⟨w.heap.size,0,none⟩) 24 24)/\w'=w.alloc (.cells ((Lex.zAH.map fun l=>Value.string ⟨l.toArray⟩).toArray) 9):=by
 go_in;go_wp2;go_ret;exact⟨rfl,rfl⟩
theorem zHA (s:BA):s.data.toList.length=s.size:=(Lib.size_eq s).symm
theorem zCU {α:Type} {p:α->Bool} {l:List α} {n:Nat} (hn:l.length=n) (h:∀j x,j<n->l[j]? =some x->p x=true):l.all p=true:=by
 rw [List.all_eq_true];intro x hx;obtain⟨j,hj,e⟩:=List.mem_iff_getElem.1 hx;exact h j x (by omega) (by rw [kB hj,e])
theorem zES {α:Type} {p:α->Bool} {l:List α} {j:Nat} {x:α} (hj:l[j]? =some x) (h:p x=false):l.all p=false:=by
 rw [List.all_eq_false];exact⟨x,kM hj,by rw [h];simp⟩
theorem zL9 (w:World) (k o i:Int) (nm:BA) (a:Bool) (v:Value):∀(j:Nat) (u:Value),(#[.int .i64 k,.int .i64 o,.int .i64 i,.string nm,.bool a,v]:Array Value)[j]? =some u->(w.alloc (.cells #[.int .i64 k,.int .i64 o,.int .i64 i,.string nm,.bool a,v] 37)).cell? ⟨w.heap.size,j,none⟩=some u:=fun j u h=>zJ w _ _ j u h
theorem zF0 {l:List Tr.E} {j:Nat} {x:Tr.E} (h:l[j]? =some x) (hv:Tr.zE x=false):Tr.zT l=false:=by
 rw [Tr.zCN];exact zES h hv
theorem zEU {l:List Tr.E} {n:Nat} (hn:l.length=n) (h:∀j x,j<n->l[j]? =some x->Tr.zE x=true):Tr.zT l=true:=by
 rw [Tr.zCN];exact zCU hn h
theorem zB5 (nm:BA):nm.toList.isEmpty=decide (nm.size=0):=by
 have h1:=zAF nm ⟨#[]⟩;have h2:(⟨#[]⟩:BA).toList= []:=by first|rfl|simp|decide+kernel
 have h3:nm.toList.isEmpty=(nm.toList == []):=by cases nm.toList<;>rfl
 rw [h3,<-h2,h1];rw [Bool.eq_iff_iff,decide_eq_true_eq,decide_eq_true_eq]
 constructor
 ·rintro rfl;rfl
 ·intro h;cases nm with
  |mk d=>
   have:d= #[]:=Array.eq_empty_of_size_eq_zero h;rw [this]
theorem zCX {nm:BA} (h:nm.toList.isEmpty=true):nm.size=0:=by rw [zB5] at h;exact of_decide_eq_true h
theorem zB1 {nm:BA} (h:nm.toList.isEmpty=false):¬nm.size=0:=by rw [zB5] at h;exact of_decide_eq_false h
theorem okE_0 (i:Int) (nm:BA) (n:Nat):Tr.okE 0 0 i nm false n=decide (n=0/\nm.size=0/\0<=i/\i<=2305843009213693951):=by
 unfold Tr.okE;rw [kD rfl,Bool.and_false,kE (fun h=>h.1 rfl),kE (fun h=>h.2 rfl)]
 rfl
theorem zI7 (o:Int) (nm:BA) (n:Nat):Tr.okE 10 o 0 nm false n=decide (n=2/\nm.size=0/\0<=o/\o<=12):=by
 unfold Tr.okE;rw [Bool.and_false,kE (p:=(10:Int)≠0/\(0:Int)≠0) (fun h=>h.2 rfl),kE (p:=(10:Int)≠10/\o≠0) (fun h=>h.1 rfl)]
 rfl
theorem zLH {k:Int} {nm:BA} {n:Nat} (h:k<0\/10<k):Tr.okE k 0 0 nm false n=false:=by
 unfold Tr.okE;rw [kC (by omega),kC (by omega),kC (by omega),kC (by omega),kC (by omega),kC (by omega),kC (by omega),kC (by omega),kC (by omega),kC (by omega),kC (by omega),Bool.and_false]
def stmtV (s:Tr.S) (x y z:Value):Value:= .agg #[.int .i64 s.kind,.string s.name,x,y,z]
section
variable (nm:BA) (n nb ne:Nat)
theorem okS_0:Tr.okS 0 nm n nb ne=(decide (n=1/\nb=0/\ne=0) && Tr.varB nm):=rfl
theorem okS_1:Tr.okS 1 nm n nb ne=(decide (n=1/\nb=0/\ne=0) && Tr.varB nm):=rfl
theorem okS_2:Tr.okS 2 nm n nb ne=(decide (n=2/\nb=0/\ne=0) && Tr.varB nm):=rfl
theorem okS_3:Tr.okS 3 nm n nb ne=decide (n=1/\nm.size=0):=rfl
theorem okS_4:Tr.okS 4 nm n nb ne=decide (n=1/\nm.size=0/\ne=0):=rfl
theorem okS_5:Tr.okS 5 nm n nb ne=(decide (1<=n/\nb=0/\ne=0) && Tr.varB nm):=rfl
theorem okS_6:Tr.okS 6 nm n nb ne=decide (n=1/\nm.size=0/\nb=0/\ne=0):=rfl
theorem okS_7:Tr.okS 7 nm n nb ne=decide (n=2/\nm.size=0/\nb=0/\ne=0):=rfl
theorem okS_8:Tr.okS 8 nm n nb ne=(decide (n=2/\nb=0/\ne=0) && Tr.varB nm):=rfl
theorem okS_9:Tr.okS 9 nm n nb ne=decide (n=0/\nm.size=0/\nb=0/\ne=0):=rfl
theorem zLG {k:Int} {nm:BA} {n nb ne:Nat} (h:k<0\/9<k):Tr.okS k nm n nb ne=false:=by
 unfold Tr.okS;rw [kC (by omega),kC (by omega),kC (by omega),kC (by omega),kC (by omega),kC (by omega),kC (by omega),kC (by omega),kC (by omega),kC (by omega)]
end
theorem zOK {l:List Tr.S} {j:Nat} {x:Tr.S} (h:l[j]? =some x) (hv:Tr.zI x=false):Tr.zV l=false:=by
 rw [Tr.zCM];exact zES h hv
theorem zMM {l:List Tr.S} {n:Nat} (hn:l.length=n) (h:∀j x,j<n->l[j]? =some x->Tr.zI x=true):Tr.zV l=true:=by
 rw [Tr.zCM];exact zCU hn h
theorem SlStr.form {w:World} {v:Value} {l:List BA} (h:SlStr w v l):∃p c,v= .slice p l.length c:=by
 obtain⟨p,c,e,_⟩:=h;exact⟨p,c,e⟩
theorem SlM.form {w:World} {v:Value} {l:List Tr.M} (h:SlM w v l):∃p c,v= .slice p l.length c:=by
 obtain⟨p,c,e,_⟩:=h;exact⟨p,c,e⟩
theorem SlM.len {w:World} {v:Value} {l:List Tr.M} (h:SlM w v l):l.length<=maxLen:=by
 obtain⟨p,c,e,h1,_⟩:=h;exact h1
theorem SlM.get {w:World} {p:Option Addr} {n c:Nat} {l:List Tr.M} (h:SlM w (.slice p n c) l) {j:Nat} {m:Tr.M} (hj:l[j]? =some m):
 ∃b o x y,p=some ⟨b,o,none⟩/\b<w.heap.size/\CellsM w b (o+j*3) m x y/\m.name.size<=maxLen/\SlStr w x m.params/\SlS w y m.body:=by
 obtain⟨p',c',e,_,_,hx⟩:=h;cases e;obtain⟨h1,b,o,x,y,h2,h3,h4,h5,h6⟩:=hx j m hj;exact⟨b,o,x,y,h2,h3,h4,h1,h5,h6⟩
theorem SlC.form {w:World} {v:Value} {l:List Tr.C} (h:SlC w v l):∃p c,v= .slice p l.length c:=by
 obtain⟨p,c,e,_⟩:=h;exact⟨p,c,e⟩
theorem SlC.len {w:World} {v:Value} {l:List Tr.C} (h:SlC w v l):l.length<=maxLen:=by
 obtain⟨p,c,e,h1,_⟩:=h;exact h1
theorem SlC.get {w:World} {p:Option Addr} {n c:Nat} {l:List Tr.C} (h:SlC w (.slice p n c) l) {j:Nat} {m:Tr.C} (hj:l[j]? =some m):
 ∃b o x y,p=some ⟨b,o,none⟩/\b<w.heap.size/\CellsC w b (o+j*4) m x y/\m.name.size<=maxLen/\SlStr w x m.fields/\SlM w y m.methods:=by
 obtain⟨p',c',e,_,_,hx⟩:=h;cases e;obtain⟨h1,b,o,x,y,h2,h3,h4,h5,h6⟩:=hx j m hj;exact⟨b,o,x,y,h2,h3,h4,h1,h5,h6⟩
end Go.Proofs.YtcnmfcgmnkncaaaGreatDoor
namespace Go.Proofs.YtcnmfcgmnkncaaaGreatDoor
namespace Lex
theorem zC0 {α:Type} (p:α->Bool):∀l:List α,l.takeWhile p=l.take (l.takeWhile p).length
 | []=>rfl
 |a::l=>by
  by_cases h:p a
  ·simp [h];exact zC0 p l
  ·simp [h]
theorem zDY {α:Type} (p:α->Bool) (l:List α):(l.takeWhile p).length<=l.length:=(List.takeWhile_sublist p).length_le
theorem zE9 {α:Type} (p:α->Bool) (a:α) (l:List α) (h:p a=true):1<=((a::l).takeWhile p).length:=by
 rw [List.takeWhile_cons,kD h];simp
theorem zCO {c:UInt8} {r:Bytes} {k:Nat} {t:Bytes} {v:Nat} (h:next (c::r)= .tok k t v):t=(c::r).take t.length/\1<=t.length/\t.length<=(c::r).length:=by
 unfold next at h;rw [List.headD_cons] at h;by_cases hl:letter c=true
 ·rw [kD hl] at h;unfold nameAt at h;have h1:=zC0 wordc (c::r);have h2:=zDY wordc (c::r);have h3:=zE9 wordc c r (by unfold wordc;rw [hl];rfl)
  generalize (c::r).takeWhile wordc=T at h h1 h2 h3
  simp only at h
  split at h
  ·cases h
  ·split at h
   ·cases h;exact⟨h1,h3,h2⟩
   ·split at h<;>(cases h;exact⟨h1,h3,h2⟩)
 ·rw [kC hl] at h;by_cases hl:digit c=true
  ·rw [kD hl] at h;unfold numberAt at h;have h1:=zC0 digit (c::r);have h2:=zDY digit (c::r);have h3:=zE9 digit c r hl
   generalize (c::r).takeWhile digit=T at h h1 h2 h3
   simp only at h
   split at h
   ·cases h
   ·split at h
    ·cases h
    ·split at h
     ·cases h
     ·cases h;exact⟨h1,h3,h2⟩
  ·rw [kC hl] at h;unfold symbolAt at h
   split at h
   ·rename_i hl;cases h;have e:((c::r).take 2).length=2:=by rw [List.length_take];omega
    rw [e];exact⟨rfl,by omega,hl.1⟩
   ·split at h
    ·cases h;have e:((c::r).take 1).length=1:=by rw [List.length_take];simp
     rw [e];exact⟨rfl,by omega,by simp⟩
    ·cases h
theorem zG3 {l:Bytes} {e:Nat} (h:next l= .bad e):0<e:=by
 unfold next at h;by_cases hl:letter (l.headD 0)=true
 ·rw [kD hl] at h;unfold nameAt at h;simp only at h
  split at h
  ·cases h;omega
  ·split at h
   ·cases h
   ·split at h<;>cases h
 ·rw [kC hl] at h;by_cases hl:digit (l.headD 0)=true
  ·rw [kD hl] at h;unfold numberAt at h;simp only at h
   split at h
   ·cases h;omega
   ·split at h
    ·cases h;omega
    ·split at h
     ·cases h;omega
     ·cases h
  ·rw [kC hl] at h;unfold symbolAt at h
   split at h
   ·cases h
   ·split at h
    ·cases h
    ·cases h;omega
def pre (ts:List Tok):Res->Res
 | .bad a e=> .bad a e
 | .toks l=> .toks (ts++l)
theorem zMY (r:Res):pre [] r=r:=by cases r<;>rfl
theorem zC5 (n f:Nat):scanF n f []= .toks [⟨0,[],0,n⟩]:=by cases f<;>rfl
theorem zFF {n f:Nat} {c:UInt8} {r:Bytes} {e:Nat} (h:next (c::r)= .bad e):scanF n (f+1) (c::r)= .bad (n -(c::r).length) e:=by
 simp only [scanF,h]
theorem zHM {n f:Nat} {c:UInt8} {r:Bytes} {k:Nat} {t:Bytes} {v:Nat} (h:next (c::r)= .tok k t v) (ts:List Tok):
 pre ts (scanF n (f+1) (c::r))=pre (ts++ [⟨k,t,v,n -(c::r).length⟩]) (scanF n f (skip false ((c::r).drop t.length))):=by
 simp only [scanF,h];cases scanF n f (skip false ((c::r).drop t.length))<;>simp [pre]
end Lex
end Go.Proofs.YtcnmfcgmnkncaaaGreatDoor
namespace Go.Proofs.YtcnmfcgmnkncaaaGreatDoor
namespace Tr
def tokB (k:Nat) (l:List UInt8):Bool:=
 match Lex.scan l with
 | .toks (t::_)=>t.kind == k && decide (t.text=l)
 |_=>false
theorem zF7 (c:UInt8):Lex.letter c=true↔(97<=c.toNat/\c.toNat<=122\/65<=c.toNat/\c.toNat<=90):=by unfold Lex.letter;rw [decide_eq_true_eq]
theorem zMS {c:UInt8} {r:List UInt8} (h:Lex.letter c=true):Lex.skip false (c::r)=c::r:=by
 rw [zF7] at h;have h1:Lex.space c=false:=by unfold Lex.space;rw [decide_eq_false_iff_not];omega
 rw [Lex.skip,h1];simp only [Bool.false_eq_true,if_false];rw [kC (by omega)]
theorem zFA {p:UInt8->Bool}:∀ {l:List UInt8},l.all p=true->l.takeWhile p=l
 | [],_=>rfl
 |c::r,h=>by
  rw [List.all_cons,kW] at h;rw [List.takeWhile_cons,kD h.1,zFA h.2]
theorem zDX {p:UInt8->Bool}:∀ {l:List UInt8},l.takeWhile p=l->l.all p=true
 | [],_=>rfl
 |c::r,h=>by
  rw [List.takeWhile_cons] at h;by_cases hc:p c=true
  ·rw [kD hc] at h;rw [List.all_cons,hc,zDX (List.cons.inj h).2];rfl
  ·rw [kC hc] at h;cases h
theorem zQP {k:Nat} {l:List UInt8} (hl:l.length<=31) (hh:Lex.letter (l.headD 0)=true) (h:Lex.nameAt l= .tok k l 0) (hne:l≠ []):tokB k l=true:=by
 obtain⟨c,r,rfl⟩:∃c r,l=c::r:=by cases l with|nil=>exact absurd rfl hne|cons c r=>exact ⟨c,r,rfl⟩
 have hn:Lex.next (c::r)= .tok k (c::r) 0:=by unfold Lex.next;rw [kD hh];exact h
 have hs:Lex.scan (c::r)= .toks (⟨k,c::r,0,0⟩:: [⟨0,[],0,(c::r).length⟩]):=by
  unfold Lex.scan;rw [kC (by omega),zMS (by simpa using hh)];rw [show (c::r).length=r.length+1 from rfl,Lex.scanF,hn];simp only [];rw [List.drop_eq_nil_of_le (by simp)];rw [show Lex.skip false []= [] from rfl,Lex.zC5];simp
 unfold tokB;rw [hs];simp
theorem zLI {k:Nat} {l:List UInt8} (h:tokB k l=true) (hk:0<k):l≠ []/\∃v,Lex.next l= .tok k l v:=by
 unfold tokB at h;cases hs:Lex.scan l with
 |bad a e=>rw [hs] at h;cases h
 |toks ts=>
  rw [hs] at h;cases ts with
  |nil=>cases h
  |cons t ts=>
   simp only [kW,kX,decide_eq_true_eq] at h;obtain⟨h1,h2⟩:=h;unfold Lex.scan at hs
   split at hs
   ·cases hs
   ·have hle:=Lex.zBR false l;cases hm:Lex.skip false l with
    |nil=>
     rw [hm,Lex.zC5] at hs;cases hs;simp at h1;omega
    |cons c r=>
     rw [hm] at hs hle;cases hf:l.length with
     |zero=>rw [hf] at hle;simp at hle
     |succ f=>
      rw [hf,Lex.scanF] at hs;cases hn:Lex.next (c::r) with
      |bad e=>rw [hn] at hs;cases hs
      |tok k' t' v'=>
       rw [hn] at hs;simp only [] at hs;cases hr:Lex.scanF (f+1) f (Lex.skip false ((c::r).drop t'.length)) with
       |bad a e=>rw [hr] at hs;cases hs
       |toks l'=>
        rw [hr] at hs;simp only [Lex.Res.toks.injEq,List.cons.injEq] at hs;obtain⟨ht,_⟩:=hs;rw [<-ht] at h1 h2;simp only [] at h1 h2;subst h1;obtain⟨x1,x2,x3⟩:=Lex.zCO hn;rw [h2] at x1 x3;have:l=c::r:=by rw [x1];exact kR hle
        rw [h2] at hn;rw [<-this] at hn;exact⟨by rw [this];simp,v',hn⟩
theorem zKY {k lo hi:Nat} (hk:k=2/\lo=97/\hi=122\/k=3/\lo=65/\hi=90) (l:List UInt8):tokB k l=nameL lo hi l:=by
 rw [Bool.eq_iff_iff]
 constructor
 ·intro h;obtain⟨hne,v,hn⟩:=zLI h (by omega);unfold Lex.next at hn
  split at hn
  ·rename_i hl;unfold Lex.nameAt at hn;simp only [] at hn
   split at hn
   ·cases hn
   ·rename_i h31
    split at hn
    ·have:=(Lex.Got.tok.inj hn).1;omega
    ·rename_i hkw;have hw:l.takeWhile Lex.wordc=l:=by
      split at hn<;>exact (Lex.Got.tok.inj hn).2.1
     have hall:=zDX hw;rw [hw] at h31 hkw hn;rw [zF7] at hl;unfold nameL;rw [hall,Bool.and_true,kW,decide_eq_true_eq];refine⟨⟨hne,by omega,?_⟩,by simpa using hkw⟩
     split at hn
     ·rename_i h90;have:=(Lex.Got.tok.inj hn).1;omega
     ·rename_i h90;have:=(Lex.Got.tok.inj hn).1;omega
  ·split at hn
   ·unfold Lex.numberAt at hn;simp only [] at hn
    (repeat' split at hn)<;>first|(have:=(Lex.Got.tok.inj hn).1;omega)|cases hn
   ·unfold Lex.symbolAt at hn
    (repeat' split at hn)<;>first|(have:=(Lex.Got.tok.inj hn).1;omega)|cases hn
 ·intro h;unfold nameL at h;rw [kW,kW,decide_eq_true_eq] at h;obtain⟨⟨⟨hne,h31,h1,h2⟩,hkw⟩,hall⟩:=h;have hw:=zFA hall;refine zQP h31 ?_ ?_ hne
  ·rw [zF7];omega
  ·unfold Lex.nameAt;rw [hw];simp only [];rw [kC (by omega),kC (by simpa using hkw)];rcases hk with ⟨rfl,rfl,rfl⟩|⟨rfl,rfl,rfl⟩
   ·rw [kC (by omega)]
   ·rw [kD (by omega)]
theorem zSX (s:BA):tokB 2 s.data.toList=varB s:=zKY (.inl ⟨rfl,rfl,rfl⟩) _
theorem zSY (s:BA):tokB 3 s.data.toList=clsB s:=zKY (.inr ⟨rfl,rfl,rfl⟩) _
end Tr
end Go.Proofs.YtcnmfcgmnkncaaaGreatDoor
namespace Go.Proofs.YtcnmfcgmnkncaaaGreatDoor
open Go.RowKit
def rest (s:BA) (k:Nat):List UInt8:=s.data.toList.drop k
theorem zDO (s:BA) (k:Nat):(rest s k).length=s.size -k:=by unfold rest;rw [List.length_drop,<-Lib.size_eq]
theorem zQW (s:BA) (k:Nat) (h:k<s.size):rest s k=s[k]::rest s (k+1):=by
 unfold rest;rw [List.drop_eq_getElem_cons (by rw [<-Lib.size_eq];exact h)]
 rfl
theorem zQG (c:UInt8):Lex.space c=true↔(c.toNat=32\/c.toNat=9\/c.toNat=10\/c.toNat=13):=by unfold Lex.space;exact decide_eq_true_iff
theorem skip_t (c:UInt8) (r:List UInt8):Lex.skip true (c::r)=if c.toNat=10 then Lex.skip false r else Lex.skip true r:=rfl
theorem zNP (c:UInt8) (r:List UInt8):Lex.skip false (c::r)=if Lex.space c then Lex.skip false r else if c.toNat=35 then Lex.skip true r else c::r:=rfl
theorem beq_no (c:UInt8) (m:Int) (h:¬(c.toNat:Int)=m):((c.toNat:Int) == m)=false:=by rw [kA];exact h
theorem zQA (s:BA) (k:Nat) (h:k<s.size):s.data.toList.take (k+1)=s.data.toList.take k++ [s[k]]:=by
 rw [List.take_succ_eq_append_getElem (by simpa using h)];rfl
theorem zN3 (s:BA) (h:0<s.size):s.data.toList.headD 0=s[0]:=by
 have:=zQW s 0 h;unfold rest at this;rw [List.drop_zero] at this;rw [this];rfl
def tokV (k:Int) (t:List UInt8) (v p:Int):Value:= .agg #[.int .i64 k,.string ⟨t.toArray⟩,.int .i64 v,.int .i64 p]
def gotV (p:Int):Lex.Got->Value
 | .bad e=> .tuple #[tokV 0 [] 0 0,.int .i64 e]
 | .tok k t v=> .tuple #[tokV k t v p,.int .i64 0]
theorem zEP {α:Type} (p:α->Bool):∀l:List α,l.take (l.takeWhile p).length=l.takeWhile p
 | []=>rfl
 |a::l=>by
  by_cases h:p a
  ·simp [h,zEP p l]
  ·simp [h]
def kwz (j:Nat):BA:=⟨(Lex.zAH.getD j []).toArray⟩
theorem zQE (ls:List (List UInt8)) {W:World} {h0:Array Obj} {t:TypeId} {b:Nat} (hW:W.heap=h0.push (.cells ((ls.map fun l=>Value.string ⟨l.toArray⟩).toArray) t)) (hb:b=h0.size) (j:Nat) (hj:j<ls.length):
 W.cell? ⟨b,0+j,none⟩=some (.string ⟨(ls.getD j []).toArray⟩):=by
 rw [Nat.zero_add];unfold World.cell?;simp [hW,hb,hj]
theorem zFQ {l T:List UInt8} (h:l.takeWhile Lex.wordc=T):Lex.nameAt l=if 31<T.length then .bad 8 else if Lex.zAH.contains T then .tok 4 T 0 else if (T.headD 0).toNat<=90 then .tok 3 T 0 else .tok 2 T 0:=by
 unfold Lex.nameAt;rw [h]
theorem zO2 {l T:List UInt8} (h:l.takeWhile Lex.wordc=T) (h1:31<T.length):Lex.nameAt l= .bad 8:=by rw [zFQ h,kD h1]
theorem zFO {l T:List UInt8} (h:l.takeWhile Lex.digit=T) (h1:(l.drop T.length).head?.any Lex.tailc=true):Lex.numberAt l= .bad 3:=by
 unfold Lex.numberAt;rw [h];rw [kD h1]
theorem zDP {l T:List UInt8} (h:l.takeWhile Lex.digit=T) (h1:(l.drop T.length).head?.any Lex.tailc=false):
 Lex.numberAt l=if 1<T.length/\T.headD 0=48 then .bad 3 else if 2305843009213693951<Lex.value T then .bad 2 else .tok 1 T (Lex.value T):=by
 unfold Lex.numberAt;rw [h];simp only [h1,Bool.false_eq_true,if_false]
def syz (j:Nat):BA:=⟨(Lex.symbols.getD j []).toArray⟩
theorem zK0 {l:List UInt8} (h:2<=l.length) (h1:Lex.symbols.contains (l.take 2)=true):Lex.symbolAt l= .tok 5 (l.take 2) 0:=by
 unfold Lex.symbolAt;rw [kD ⟨h,h1⟩]
theorem zK1 {l:List UInt8} (h:¬(2<=l.length/\Lex.symbols.contains (l.take 2)=true)) (h1:Lex.symbols.contains (l.take 1)=true):Lex.symbolAt l= .tok 5 (l.take 1) 0:=by
 unfold Lex.symbolAt;rw [kC h,h1];rfl
theorem zHL {l:List UInt8} (h:¬(2<=l.length/\Lex.symbols.contains (l.take 2)=true)) (h1:Lex.symbols.contains (l.take 1)=false):Lex.symbolAt l= .bad 3:=by
 unfold Lex.symbolAt;rw [kC h,h1];rfl
def ToksAt (w:World) (b:Nat) (ts:List Lex.Tok):Prop:=
 ∀(j:Nat) (t:Lex.Tok),ts[j]? =some t->w.cell? ⟨b,j*4,none⟩=some (.int .i64 t.kind)/\w.cell? ⟨b,j*4+1,none⟩=some (.string ⟨t.text.toArray⟩)/\
  w.cell? ⟨b,j*4+2,none⟩=some (.int .i64 t.val)/\w.cell? ⟨b,j*4+3,none⟩=some (.int .i64 t.pos)
def tokCells (t:Lex.Tok):List Value:= [.int .i64 (t.kind:Nat),.string ⟨t.text.toArray⟩,.int .i64 (t.val:Nat),.int .i64 (t.pos:Nat)]
def toksCells (ts:List Lex.Tok):List Value:=ts.flatMap tokCells
def ScanPost (s:BA) (w:World) (e:Ending) (w':World):Prop:=
 (∃a er:Nat,Lex.scan s.data.toList= .bad a er/\e= .returned (.tuple #[.slice none 0 0,.int .i64 a,.int .i64 er])/\Below w.heap.size w w')\/
 (∃(ts:List Lex.Tok) (v:Value),Lex.scan s.data.toList= .toks ts/\e= .returned (.tuple #[v,.int .i64 0,.int .i64 0])/\w'.ownsRow w.heap.size 203 4 v ts.length (toksCells ts)/\Below w.heap.size w w')
theorem tokInfo:(prog.info? 203).map (fun i=>(i.zero,i.size,i.bytes))=some (some (.agg #[.int .i64 0,.string ⟨#[]⟩,.int .i64 0,.int .i64 0]),4,40):=by kernel_rfl
theorem zEO (ts:List Lex.Tok) (t:Lex.Tok):toksCells (ts++ [t])=toksCells ts++tokCells t:=by simp [toksCells]
theorem zBN {W:World} {h0:Array Obj} {cs:Array Value} {t:TypeId} {b:Nat} (hW:W.heap=h0.push (.cells cs t)) (hb:b=h0.size) (j:Nat) (u:Value) (h:cs.toList[j]? =some u):
 W.cell? ((⟨b,0,none⟩:Addr).add j)=some u:=by
 have hadd:(⟨b,0,none⟩:Addr).add j=⟨b,j,none⟩:=by unfold Addr.add;split<;>simp_all
 rw [hadd];unfold World.cell?;simp [hW,hb]
 simpa using h
theorem zDV {w w':World} (h:Below w.heap.size w w'):w.grownBy w' none:=⟨h.os,h.tape,h.output,h.size,fun k hk _=>h.block k hk⟩
theorem zCD {w w':World} {base:Nat} {e:TypeId} {size:Nat} {v:Value} {n:Nat} {xs:List Value} (h:w.ownsRow base e size v n xs) (hb:Below w.heap.size w w'):w'.ownsRow base e size v n xs:=
 h.kept (zDV hb) (by cases v.ownBlock<;>simp)
theorem zLB (s:BA) (k:Nat) (hk:k<=s.size):rest s (s.size -(Lex.skip false (rest s k)).length)=Lex.skip false (rest s k):=by
 have h:=Lex.zD1 false (rest s k);have hle:=Lex.zBR false (rest s k);rw [zDO] at h hle
 conv=>rhs;rw [h]
 unfold rest;rw [List.drop_drop]
 congr 1
 unfold rest at hle;omega
end Go.Proofs.YtcnmfcgmnkncaaaGreatDoor
namespace Go.Proofs
open Go.Shelf
def Tryz.lays161_ren:Go.Shelf.Ren:=⟨fun|161=>193|231=>205|227=>206|233=>207|235=>208|228=>217|197=>218|151=>219|260=>229|152=>230|137=>195|119=>240|224=>238|225=>237|217=>210|266=>220|n=>n,fun|9=>9|4=>4|3=>3|5=>5|117=>251|116=>250|0=>0|124=>254|105=>260|21=>21|119=>276|46=>204|139=>279|138=>278|n=>n,fun|3=>11|4=>12|n=>n⟩
theorem Tryz.lays161:Go.Proofs.Lays.n161 prog Tryz.lays161_ren:= {
 mixed:=by kernel_rfl
 f119:=func240.trans (congrArg some (by kernel_rfl))
 f137:=func195.trans (congrArg some (by kernel_rfl))
 f151:=func219.trans (congrArg some (by kernel_rfl))
 f152:=func230.trans (congrArg some (by kernel_rfl))
 f161:=func193.trans (congrArg some (by kernel_rfl))
 f197:=func218.trans (congrArg some (by kernel_rfl))
 f217:=func210.trans (congrArg some (by kernel_rfl))
 f224:=func238.trans (congrArg some (by kernel_rfl))
 f225:=func237.trans (congrArg some (by kernel_rfl))
 f227:=func206.trans (congrArg some (by kernel_rfl))
 f228:=func217.trans (congrArg some (by kernel_rfl))
 f231:=func205.trans (congrArg some (by kernel_rfl))
 f233:=func207.trans (congrArg some (by kernel_rfl))
 f235:=func208.trans (congrArg some (by kernel_rfl))
 f260:=func229.trans (congrArg some (by kernel_rfl))
 f266:=func220.trans (congrArg some (by kernel_rfl))
 t0:=underlying0
 a0:=isAgg0
 z0:=sizeOf0
 v0:=zeroValue0
 t3:=underlying3
 a3:=isAgg3
 z3:=sizeOf3
 v3:=zeroValue3
 t4:=underlying4
 a4:=isAgg4
 z4:=sizeOf4
 v4:=zeroValue4
 t5:=underlying5
 a5:=isAgg5
 z5:=sizeOf5
 v5:=zeroValue5
 t9:=underlying9
 a9:=isAgg9
 z9:=sizeOf9
 v9:=zeroValue9
 t21:=underlying21
 a21:=isAgg21
 z21:=sizeOf21
 v21:=zeroValue21
 t46:=underlying204
 a46:=isAgg204
 z46:=sizeOf204
 v46:=zeroValue204
 t105:=underlying260
 a105:=isAgg260
 z105:=sizeOf260
 v105:=zeroValue260
 t116:=underlying250
 a116:=isAgg250
 z116:=sizeOf250
 t117:=underlying251
 a117:=isAgg251
 z117:=sizeOf251
 v117:=zeroValue251
 t119:=underlying276
 a119:=isAgg276
 z119:=sizeOf276
 t124:=underlying254
 a124:=isAgg254
 z124:=sizeOf254
 v124:=zeroValue254
 t138:=underlying278
 a138:=isAgg278
 z138:=sizeOf278
 v138:=zeroValue278
 t139:=underlying279
 a139:=isAgg279
 z139:=sizeOf279
 v139:=zeroValue279
 g3:=by kernel_rfl
 g4:=by kernel_rfl }
def Tryz.lays137_ren:Go.Shelf.Ren:=⟨fun|137=>195|217=>210|266=>220|n=>n,fun|9=>9|5=>5|3=>3|n=>n,fun|n=>n⟩
theorem Tryz.lays137:Go.Proofs.Lays.n137 prog Tryz.lays137_ren:= {
 mixed:=by kernel_rfl
 f137:=func195.trans (congrArg some (by kernel_rfl))
 f217:=func210.trans (congrArg some (by kernel_rfl))
 f266:=func220.trans (congrArg some (by kernel_rfl))
 t3:=underlying3
 a3:=isAgg3
 z3:=sizeOf3
 v3:=zeroValue3
 t5:=underlying5
 a5:=isAgg5
 z5:=sizeOf5
 v5:=zeroValue5
 t9:=underlying9
 a9:=isAgg9
 z9:=sizeOf9
 v9:=zeroValue9 }
open Go.RowKit in
theorem Tryz.strings_IndexByte (s:ByteArray) (c:Int) (w:World):
 Calls prog 195 #[.string s,.int .u8 c] w fun e w'=>e= .returned (.int .i64 (Lib.indexByte s.data.toList c.toNat.toUInt8))/\w'=w:=Any.strings_IndexByte Tryz.lays137 s c w
def Tryz.laysC174_ren:Go.Shelf.Ren:=⟨fun|174=>202|247=>213|245=>214|287=>221|279=>222|280=>223|281=>224|282=>225|321=>231|322=>232|316=>233|171=>235|205=>234|243=>241|246=>163|283=>182|284=>183|285=>184|286=>185|129=>197|317=>196|318=>198|319=>199|320=>200|337=>211|338=>212|n=>n,fun|9=>9|3=>3|2=>2|75=>245|85=>246|4=>4|167=>265|5=>5|53=>164|175=>266|46=>204|168=>268|37=>228|0=>0|210=>274|21=>21|127=>281|145=>284|143=>282|171=>225|173=>229|212=>240|51=>241|20=>20|213=>242|232=>263|233=>264|80=>287|n=>n,fun|15=>9|16=>10|17=>3|18=>6|19=>7|n=>n⟩
theorem Tryz.laysC174:Go.Proofs.LaysC.n174 prog Tryz.laysC174_ren:= {
 mixed:=by kernel_rfl
 f129:=func197.trans (congrArg some (by kernel_rfl))
 f171:=func235.trans (congrArg some (by kernel_rfl))
 f174:=func202.trans (congrArg some (by kernel_rfl))
 f205:=func234.trans (congrArg some (by kernel_rfl))
 f243:=func241.trans (congrArg some (by kernel_rfl))
 f245:=func214.trans (congrArg some (by kernel_rfl))
 f246:=func163.trans (congrArg some (by kernel_rfl))
 f247:=func213.trans (congrArg some (by kernel_rfl))
 f279:=func222.trans (congrArg some (by kernel_rfl))
 f280:=func223.trans (congrArg some (by kernel_rfl))
 f281:=func224.trans (congrArg some (by kernel_rfl))
 f282:=func225.trans (congrArg some (by kernel_rfl))
 f283:=func182.trans (congrArg some (by kernel_rfl))
 f284:=func183.trans (congrArg some (by kernel_rfl))
 f285:=func184.trans (congrArg some (by kernel_rfl))
 f286:=func185.trans (congrArg some (by kernel_rfl))
 f287:=func221.trans (congrArg some (by kernel_rfl))
 f316:=func233.trans (congrArg some (by kernel_rfl))
 f317:=func196.trans (congrArg some (by kernel_rfl))
 f318:=func198.trans (congrArg some (by kernel_rfl))
 f319:=func199.trans (congrArg some (by kernel_rfl))
 f320:=func200.trans (congrArg some (by kernel_rfl))
 f321:=func231.trans (congrArg some (by kernel_rfl))
 f322:=func232.trans (congrArg some (by kernel_rfl))
 f337:=func211.trans (congrArg some (by kernel_rfl))
 f338:=func212.trans (congrArg some (by kernel_rfl))
 t0:=underlying0
 a0:=isAgg0
 z0:=sizeOf0
 v0:=zeroValue0
 t2:=underlying2
 a2:=isAgg2
 z2:=sizeOf2
 v2:=zeroValue2
 t3:=underlying3
 a3:=isAgg3
 z3:=sizeOf3
 v3:=zeroValue3
 t4:=underlying4
 a4:=isAgg4
 z4:=sizeOf4
 v4:=zeroValue4
 t5:=underlying5
 a5:=isAgg5
 z5:=sizeOf5
 v5:=zeroValue5
 t9:=underlying9
 a9:=isAgg9
 z9:=sizeOf9
 v9:=zeroValue9
 t20:=underlying20
 a20:=isAgg20
 z20:=sizeOf20
 v20:=zeroValue20
 t21:=underlying21
 a21:=isAgg21
 z21:=sizeOf21
 v21:=zeroValue21
 t37:=underlying228
 a37:=isAgg228
 z37:=sizeOf228
 v37:=zeroValue228
 t46:=underlying204
 a46:=isAgg204
 z46:=sizeOf204
 v46:=zeroValue204
 t51:=underlying241
 a51:=isAgg241
 z51:=sizeOf241
 v51:=zeroValue241
 t53:=underlying164
 a53:=isAgg164
 z53:=sizeOf164
 v53:=zeroValue164
 t75:=underlying245
 a75:=isAgg245
 z75:=sizeOf245
 v75:=zeroValue245
 t85:=underlying246
 a85:=isAgg246
 z85:=sizeOf246
 v85:=zeroValue246
 t127:=underlying281
 a127:=isAgg281
 z127:=sizeOf281
 v127:=zeroValue281
 t143:=underlying282
 a143:=isAgg282
 z143:=sizeOf282
 v143:=zeroValue282
 t145:=underlying284
 a145:=isAgg284
 z145:=sizeOf284
 v145:=zeroValue284
 t167:=underlying265
 a167:=isAgg265
 z167:=sizeOf265
 v167:=zeroValue265
 t168:=underlying268
 a168:=isAgg268
 z168:=sizeOf268
 v168:=zeroValue268
 t171:=underlying225
 a171:=isAgg225
 z171:=sizeOf225
 v171:=zeroValue225
 t173:=underlying229
 a173:=isAgg229
 z173:=sizeOf229
 v173:=zeroValue229
 t175:=underlying266
 a175:=isAgg266
 z175:=sizeOf266
 v175:=zeroValue266
 t210:=underlying274
 a210:=isAgg274
 z210:=sizeOf274
 v210:=zeroValue274
 t212:=underlying240
 a212:=isAgg240
 z212:=sizeOf240
 v212:=zeroValue240
 t213:=underlying242
 a213:=isAgg242
 z213:=sizeOf242
 t232:=underlying263
 a232:=isAgg263
 z232:=sizeOf263
 v232:=zeroValue263
 t233:=underlying264
 a233:=isAgg264
 z233:=sizeOf264
 v233:=zeroValue264
 g15:=by kernel_rfl
 g16:=by kernel_rfl
 g17:=by kernel_rfl
 g18:=by kernel_rfl
 g19:=by kernel_rfl
 t80:=underlying287
 a80:=isAgg287
 z80:=sizeOf287
 v80:=zeroValue287
 i0:=by kernel_rfl
 i2:=by kernel_rfl
 i3:=by kernel_rfl
 i4:=by kernel_rfl
 i5:=by kernel_rfl
 i9:=by kernel_rfl
 i20:=by kernel_rfl
 i21:=by kernel_rfl
 i37:=by kernel_rfl
 i46:=by kernel_rfl
 i51:=by kernel_rfl
 i53:=by kernel_rfl
 i75:=by kernel_rfl
 i80:=by kernel_rfl
 i85:=by kernel_rfl
 i127:=by kernel_rfl
 i143:=by kernel_rfl
 i145:=by kernel_rfl
 i167:=by kernel_rfl
 i168:=by kernel_rfl
 i171:=by kernel_rfl
 i173:=by kernel_rfl
 i175:=by kernel_rfl
 i210:=by kernel_rfl
 i212:=by kernel_rfl
 i232:=by kernel_rfl
 i233:=by kernel_rfl
 m15:=by kernel_rfl
 m16:=by kernel_rfl
 m17:=by kernel_rfl
 m18:=by kernel_rfl
 m19:=by kernel_rfl
 c0:=by kernel_rfl
 c2:=by kernel_rfl
 c3:=by kernel_rfl
 c4:=by kernel_rfl
 c5:=by kernel_rfl
 c9:=by kernel_rfl
 c20:=by kernel_rfl
 c21:=by kernel_rfl
 c37:=by kernel_rfl
 c46:=by kernel_rfl
 c51:=by kernel_rfl
 c53:=by kernel_rfl
 c75:=by kernel_rfl
 c80:=by kernel_rfl
 c85:=by kernel_rfl
 c127:=by kernel_rfl
 c143:=by kernel_rfl
 c145:=by kernel_rfl
 c167:=by kernel_rfl
 c168:=by kernel_rfl
 c171:=by kernel_rfl
 c173:=by kernel_rfl
 c175:=by kernel_rfl
 c210:=by kernel_rfl
 c212:=by kernel_rfl
 c213:=by kernel_rfl
 c232:=by kernel_rfl
 c233:=by kernel_rfl }
open Go.RowKit in
theorem Tryz.strconv_ParseInt_10_at64_ok (s:ByteArray) (hmax:s.size<=9223372036854775806) (v:Int) (h:Lib.parseIntB 64 s.data.toList= .ok v) (w:World):
 Calls prog 202 #[.string s,.int .i64 10,.int .i64 64] w fun e w'=>e= .returned (.tuple #[.int .i64 v,.nilIface])/\(w'=w\/∃t,w'=Lib.bytesWorld w 5 t):=Any.strconv_ParseInt_10_at64_ok Tryz.laysC174 s hmax v h w
open Go.RowKit in
theorem Tryz.strconv_ParseInt_10_at64_range (s:ByteArray) (hlim:s.size<=281474976710656) (h:Lib.parseIntB 64 s.data.toList= .range) (ev:Value) (w:World) (hv:w.cell? ⟨10,0,none⟩=some ev) (hev:ev= .nilIface\/∃te pe,ev= .iface te pe):
 Calls prog 202 #[.string s,.int .i64 10,.int .i64 64] w fun e w'=>∃N,e= .returned (.tuple #[.int .i64 (Lib.intSat 64 s.data.toList),.iface 268 (.pointer (some ⟨N,0,none⟩))])/\w.heap.size<=N/\w'.heap[N]? =some (.cells #[.string ⟨#[80,97,114,115,101,73,110,116]⟩,.string s,ev] 274 (0,0))/\Below w.heap.size w w':=Any.strconv_ParseInt_10_at64_range Tryz.laysC174 s hlim h ev w hv hev
def Tryz.lays144_ren:Go.Shelf.Ren:=⟨fun|144=>204|143=>216|219=>228|217=>210|225=>237|224=>238|267=>239|266=>220|314=>242|n=>n,fun|9=>9|4=>4|3=>3|5=>5|46=>204|146=>285|51=>241|n=>n,fun|1=>8|n=>n⟩
theorem Tryz.lays144:Go.Proofs.Lays.n144 prog Tryz.lays144_ren:= {
 mixed:=by kernel_rfl
 f143:=func216.trans (congrArg some (by kernel_rfl))
 f144:=func204.trans (congrArg some (by kernel_rfl))
 f217:=func210.trans (congrArg some (by kernel_rfl))
 f219:=func228.trans (congrArg some (by kernel_rfl))
 f224:=func238.trans (congrArg some (by kernel_rfl))
 f225:=func237.trans (congrArg some (by kernel_rfl))
 f266:=func220.trans (congrArg some (by kernel_rfl))
 f267:=func239.trans (congrArg some (by kernel_rfl))
 f314:=func242.trans (congrArg some (by kernel_rfl))
 t3:=underlying3
 a3:=isAgg3
 z3:=sizeOf3
 v3:=zeroValue3
 t4:=underlying4
 a4:=isAgg4
 z4:=sizeOf4
 v4:=zeroValue4
 t5:=underlying5
 a5:=isAgg5
 z5:=sizeOf5
 v5:=zeroValue5
 t9:=underlying9
 a9:=isAgg9
 z9:=sizeOf9
 v9:=zeroValue9
 t46:=underlying204
 a46:=isAgg204
 z46:=sizeOf204
 v46:=zeroValue204
 t51:=underlying241
 a51:=isAgg241
 z51:=sizeOf241
 v51:=zeroValue241
 t146:=underlying285
 a146:=isAgg285
 z146:=sizeOf285
 v146:=zeroValue285
 g1:=by kernel_rfl }
open Go.RowKit Go.Lib in
theorem Tryz.strings_Contains_one (s:ByteArray) (c:UInt8) (w:World):
 Calls prog 204 #[.string s,.string ⟨#[c]⟩] w fun e w'=>e= .returned (.bool (decide (0<=Lib.indexByte s.data.toList c)))/\w'=w:=Any.strings_Contains_one Tryz.lays144 s c w
def Tryz.lays99_ren:Go.Shelf.Ren:=⟨fun|99=>194|206=>209|n=>n,fun|9=>9|4=>4|3=>3|n=>n,fun|n=>n⟩
theorem Tryz.lays99:Go.Proofs.Lays.n99 prog Tryz.lays99_ren:= {
 mixed:=by kernel_rfl
 f99:=func194.trans (congrArg some (by kernel_rfl))
 f206:=func209.trans (congrArg some (by kernel_rfl))
 t3:=underlying3
 a3:=isAgg3
 z3:=sizeOf3
 v3:=zeroValue3
 t4:=underlying4
 a4:=isAgg4
 z4:=sizeOf4
 v4:=zeroValue4
 t9:=underlying9
 a9:=isAgg9
 z9:=sizeOf9
 v9:=zeroValue9 }
open Go.RowKit Go.Lib in
theorem Tryz.strings_HasPrefix (s p:ByteArray) (w:World):
 Calls prog 194 #[.string s,.string p] w fun e w'=>e= .returned (.bool (Lib.hasPrefix s.data.toList p.data.toList))/\w'=w:=Any.strings_HasPrefix Tryz.lays99 s p w
def Tryz.lays110_ren:Go.Shelf.Ren:=⟨fun|110=>129|109=>134|n=>n,fun|31=>49|9=>9|4=>4|3=>3|0=>0|n=>n,fun|n=>n⟩
theorem Tryz.lays110:Go.Proofs.Lays.n110 prog Tryz.lays110_ren:= {
 mixed:=by kernel_rfl
 f109:=func134.trans (congrArg some (by kernel_rfl))
 f110:=func129.trans (congrArg some (by kernel_rfl))
 t0:=underlying0
 a0:=isAgg0
 z0:=sizeOf0
 v0:=zeroValue0
 t3:=underlying3
 a3:=isAgg3
 z3:=sizeOf3
 v3:=zeroValue3
 t4:=underlying4
 a4:=isAgg4
 z4:=sizeOf4
 v4:=zeroValue4
 t9:=underlying9
 a9:=isAgg9
 z9:=sizeOf9
 v9:=zeroValue9
 t31:=underlying49
 a31:=isAgg49
 z31:=sizeOf49
 v31:=zeroValue49 }
open Go.Lib in
theorem Tryz.slices_Contains_string (b off n c:Nat) (zs:List ByteArray) (x:ByteArray) (w:World) (hz:n<=zs.length) (hbig:n<=9223372036854775807) (hc:∀j,j<zs.length->w.cell? ⟨b,off+j,none⟩=some (.string (zs.getD j ByteArray.empty))):
 Calls prog 129 #[.slice (some ⟨b,off,none⟩) n c,.string x] w fun e w'=>e= .returned (.bool (Lib.containsS (zs.take n) x))/\w'=w:=Any.slices_Contains_string Tryz.lays110 b off n c zs x w hz hbig hc
open Go.Lib in
theorem Tryz.slices_Contains_string_empty (a:Option Addr) (c:Nat) (x:ByteArray) (w:World):
 Calls prog 129 #[.slice a 0 c,.string x] w fun e w'=>e= .returned (.bool false)/\w'=w:=Any.slices_Contains_string_empty Tryz.lays110 a c x w
end Go.Proofs
