/-
  Several texts in one: CoBud, LexRefA, TrForm, LexSpec2, TrTok, LexRefB, LexRefC, LexRefD, LexRefE, LexRefF, LexRefG, LexRefH, Shelf.
-/
import Derived.Test.YtcnmfcgmnkncaaaGreatDoorJ2
import Derived.WalkKit
import Derived.WalkSpells
import Derived.WalkLawsBesides
import Derived.Lib.Hide
import Derived.Lib.Strings
import Derived.Deep.RegionHeld3
import Derived.Deep.QuietTactic
import Derived.BigQuiet
import Derived.IntWalk
import Derived.Laws.StructEq
import Derived.Shelf.Strings.OnBuilder
import Derived.Shelf.Strings.Trim
import Derived.Shelf.Small.Strs
import Derived.Shelf.Strings.Prefix
import Derived.Shelf.Strings.Search3
import Derived.Shelf.Strconv.ParseIntPublic10
import Derived.Shelf.Slices.Turned
import Derived.Shelf.Slices.Clone
namespace Go.Proofs.YtcnmfcgmnkncaaaGreatDoor
namespace Co
open Tr
mutual
def wE:E→Nat
 | .mk _ _ _ _ _ l=>16+l.length+wEs l
def wEs:List E→Nat
 | []=>0
 |e::r=>wE e+wEs r
end
mutual
def wS:S→Nat
 | .mk _ _ x b l=>32+x.length+wEs x+wSs b+wSs l
def wSs:List S→Nat
 | []=>0
 |s::r=>wS s+wSs r
end
structure Bd (n:Nat) (g:G):Prop where
 code:g.code.length≤n
 names:g.names.length≤n
 vars:g.vars.length≤n
 nums:∀x∈g.vars,x.2≤n
 locals:g.locals≤n
 dep: -(n:Int)≤g.depth∧g.depth≤n
 most: -(n:Int)≤g.most∧g.most≤n
section
variable {n m:Nat} {g:G}
theorem Bd.mono (h:Bd n g) (hm:n≤m):Bd m g:=
 ⟨Nat.le_trans h.code hm,Nat.le_trans h.names hm,Nat.le_trans h.vars hm,fun x hx=>Nat.le_trans (h.nums x hx) hm,Nat.le_trans h.locals hm,by have:=h.dep;omega,by have:=h.most;omega⟩
theorem Bd.em (h:Bd n g) {o a b p q:Int} (hp:0≤p∧p≤m) (hq:0≤q∧q≤m):Bd (n+m+1) (emit g o a b p q):=by
 have h1:=h.dep
 have h2:=h.most
 have h3:=h.code
 refine⟨?_,Nat.le_trans h.names (by omega),Nat.le_trans h.vars (by omega),fun x hx=>Nat.le_trans (h.nums x hx) (by omega),Nat.le_trans h.locals (by omega),?_,?_⟩
 ·show(g.code++ [(o,a,b)]).length≤_
  rw [List.length_append,List.length_singleton]
  omega
 ·show -((n+m+1:Nat):Int)≤g.depth -p+q∧g.depth -p+q≤_
  omega
 ·show -((n+m+1:Nat):Int)≤max g.most (g.depth -p+q)∧max g.most (g.depth -p+q)≤_
  omega
theorem Bd.patch (h:Bd n g) (i:Nat):Bd n (patch g i):=
 ⟨by show(g.code.modify i _).length≤n;rw [List.length_modify];exact h.code,h.names,h.vars,h.nums,h.locals,h.dep,h.most⟩
theorem Bd.name (h:Bd n g) (s:ByteArray):Bd (n+1) (name g s).1:=by
 unfold Co.name
 split
 ·exact h.mono (by omega)
 ·have h3:=h.names
  have h4:=h.mono (m:=n+1) (by omega)
  exact⟨h4.code,by show(g.names++ [s]).length≤_;rw [List.length_append,List.length_singleton];omega,h4.vars,h4.nums,h4.locals,h4.dep,h4.most⟩
theorem Bd.less (h:Bd n g):Bd (n+1) { g with depth:=g.depth -1 }:=by
 have h4:=h.mono (m:=n+1) (by omega)
 have h1:=h.dep
 exact⟨h4.code,h4.names,h4.vars,h4.nums,h4.locals,by show -((n+1:Nat):Int)≤g.depth -1∧g.depth -1≤_;omega,h4.most⟩
theorem Bd.decl (h:Bd n g) (nm:ByteArray):Bd (n+1) { g with vars:=g.vars++ [(nm,g.locals)],locals:=g.locals+1 }:=by
 have h4:=h.mono (m:=n+1) (by omega)
 have hv:=h.vars
 have hl:=h.locals
 refine⟨h4.code,h4.names,?_,fun y hy=>?_,?_,h4.dep,h4.most⟩
 ·show(g.vars++ [(nm,g.locals)]).length≤_
  rw [List.length_append,List.length_singleton]
  omega
 ·rcases List.mem_append.1 hy with hy|hy
  ·exact h4.nums y hy
  ·rw [List.mem_singleton.1 hy]
   exact h4.locals
 ·show g.locals+1≤_
  omega
theorem Bd.shut {g0:G} (h:Bd n g) (h0:Bd n g0):Bd n (shut g0 g):=⟨h.code,h.names,h0.vars,h0.nums,h.locals,h.dep,h.most⟩
end
set_option maxHeartbeats 4000000 in
mutual
theorem gE_bd (cs:List C) (fs:List ByteArray):∀(n:Nat) (g:G) (e:E),Bd n g→Bd (n+wE e) (gE cs fs g e)
 |n,g,.mk k o i nm a l,h=>by
  have hs:=zB7 cs fs n g l h
  have h11:=gL_bd cs fs n g 19 0 l h
  have h12:=gL_bd cs fs n g 20 1 l h
  have e1:∀(u x y q:Int),0≤q∧q≤1→Bd (n+wE (.mk k o i nm a l)) (emit g u x y 0 q):=fun u x y q hq=>(h.em (m:=1) (o:=u) (a:=x) (b:=y) (p:=0) (q:=q) ⟨by omega,by omega⟩ ⟨by omega,by omega⟩).mono (by rw [wE];omega)
  have e2:∀(u x y p q:Int),0≤p∧p≤(l.length+2:Nat)→0≤q∧q≤(l.length+2:Nat)→Bd (n+wE (.mk k o i nm a l)) (emit (gEs cs fs g l) u x y p q):=fun u x y p q hp hq=>(hs.em (m:=l.length+2) hp hq).mono (by rw [wE];omega)
  have e3:∀(u x y p q:Int),0≤p∧p≤(l.length+2:Nat)→0≤q∧q≤(l.length+2:Nat)→Bd (n+wE (.mk k o i nm a l)) (emit (name (gEs cs fs g l) nm).1 u x y p q):=fun u x y p q hp hq=>((hs.name nm).em (m:=l.length+2) hp hq).mono (by rw [wE];omega)
  rw [gE]
  repeat' split
  all_goals first
   |exact e1 _ _ _ _ ⟨by omega,by omega⟩
   |exact e2 _ _ _ _ _ ⟨by omega,by omega⟩ ⟨by omega,by omega⟩
   |exact e3 _ _ _ _ _ ⟨by omega,by omega⟩ ⟨by omega,by omega⟩
   |exact h11.mono (by rw [wE];omega)
   |exact h12.mono (by rw [wE];omega)
theorem zB7 (cs:List C) (fs:List ByteArray):∀(n:Nat) (g:G) (l:List E),Bd n g→Bd (n+wEs l) (gEs cs fs g l)
 |n,g,[],h=>by rw [gEs];exact h
 |n,g,e::r,h=>by
  rw [gEs,wEs,←Nat.add_assoc]
  exact zB7 cs fs _ _ r (gE_bd cs fs n g e h)
theorem gL_bd (cs:List C) (fs:List ByteArray):∀(n:Nat) (g:G) (j v:Int) (l:List E),Bd n g→Bd (n+wEs l+9) (gL cs fs g j v l)
 |n,g,j,v,[],h=>by rw [gL];exact h.mono (by omega)
 |n,g,j,v,x::r,h=>by
  have h1:=gE_bd cs fs n g x h
  have h3:=zB7 cs fs _ _ r (h1.em (o:=j) (a:=0) (b:=0) (p:=1) (q:=0) (m:=1) ⟨by omega,by omega⟩ ⟨by omega,by omega⟩)
  rw [gL,wEs]
  refine Bd.patch (Bd.mono ((((((h3.em (m:=1) (p:=1) (q:=1) ⟨by omega,by omega⟩ ⟨by omega,by omega⟩).em (m:=0) (p:=0) (q:=0) ⟨by omega,by omega⟩ ⟨by omega,by omega⟩).less).patch _).em (m:=1) (p:=0) (q:=1) ⟨by omega,by omega⟩ ⟨by omega,by omega⟩)) (by omega)) _
end
theorem zRB (l:List E) (k:Nat):wEs (l.take k)≤wEs l:=by
 induction l generalizing k with
 |nil=>simp
 |cons x r ih=>
  cases k with
  |zero=>rw [List.take_zero,wEs];omega
  |succ k=>rw [List.take_succ_cons,wEs,wEs];have:=ih k;omega
theorem zRC (l:List E) (k:Nat):wEs (l.drop k)≤wEs l:=by
 induction l generalizing k with
 |nil=>simp
 |cons x r ih=>
  cases k with
  |zero=>rw [List.drop_zero];omega
  |succ k=>rw [List.drop_succ_cons,wEs];have:=ih k;omega
theorem zSV (n:Int):wE (num n)=16:=by unfold num;rw [wE,wEs];rfl
theorem zTF {e:E} {n:Int} (h:33≤wE e):wE (repl e n)≤wE e:=by
 rcases zAZ e n with h2|⟨_,h2⟩|⟨_,_,h2⟩
 ·rw [h2];exact Nat.le_refl _
 ·rw [h2,zSV];omega
 ·rw [h2,wE,wEs,wEs,zSV];exact h
theorem zSU (e:E):16≤wE e:=by cases e;rw [wE];omega
theorem wE_top (e:E):wE (top e)≤wE e:=by
 by_cases h:33≤wE e
 ·rcases zDZ e with h1|⟨n,h1⟩
  ·rw [h1];exact Nat.le_refl _
  ·rw [h1];exact zTF h
 ·cases e with
  |mk k o i nm a l=>
   cases l with
   |nil=>
    have:top (.mk k o i nm a [])= .mk k o i nm a []:=by
     unfold top
     dsimp only
     split<;>rfl
    rw [this]
    exact Nat.le_refl _
   |cons x r=>
    rw [wE,wEs] at h
    have:=zSU x
    rw [List.length_cons] at h
    omega
mutual
theorem zCS:∀e:E,wE (fold e)≤wE e
 | .mk k o i nm a l=>by
   rw [fold]
   refine Nat.le_trans (wE_top _) ?_
   rw [wE,wE,zAB]
   have:=zA2 l
   omega
theorem zA2:∀l:List E,wEs (folds l)≤wEs l
 | []=>by rw [folds];exact Nat.le_refl _
 |e::r=>by
  rw [folds,wEs,wEs]
  have:=zCS e
  have:=zA2 r
  omega
end
set_option maxHeartbeats 8000000 in
mutual
theorem gS_bd (cs:List C) (fs:List ByteArray):∀(n:Nat) (g:G) (s:S),Bd n g→Bd (n+wS s) (gS cs fs g s)
 |n,g,.mk k nm x b l,h=>by
  have hwf:=zA2 x
  have hlf:=zAB x
  have e0:∀(o p q:Int),0≤p∧p≤1→0≤q∧q≤1→Bd (n+wS (.mk k nm x b l)) (emit g o 0 0 p q):=fun o p q hp hq=>(h.em (m:=1) hp hq).mono (by rw [wS];omega)
  have t1:Bd (n+wEs x) (gEs cs fs g ((folds x).take 1)):=(zB7 cs fs n g ((folds x).take 1) h).mono (by have:=zRB (folds x) 1;omega)
  have d1:Bd (n+wEs x) (gEs cs fs g ((folds x).drop 1)):=(zB7 cs fs n g ((folds x).drop 1) h).mono (by have:=zRC (folds x) 1;omega)
  have a1:Bd (n+wEs x) (gEs cs fs g (folds x)):=(zB7 cs fs n g (folds x) h).mono (by omega)
  have a2:=a1.name nm
  have em1:∀ {n':Nat} {g':G} (o a b p q:Int),Bd n' g'→0≤p∧p≤2→0≤q∧q≤2→Bd (n'+3) (emit g' o a b p q):=fun o a b p q hg hp hq=>(hg.em (m:=2) hp hq).mono (by omega)
  rw [gS,wS]
  dsimp only
  split
  ·have h1:=em1 4 g.locals 0 1 0 t1 ⟨by omega,by omega⟩ ⟨by omega,by omega⟩
   exact(h1.decl nm).mono (by omega)
  ·split
   ·exact(em1 _ _ _ _ _ t1 ⟨by omega,by omega⟩ ⟨by omega,by omega⟩).mono (by omega)
   ·split
    ·split
     ·exact(em1 _ _ _ _ _ d1 ⟨by omega,by omega⟩ ⟨by omega,by omega⟩).mono (by omega)
     ·exact(em1 _ _ _ _ _ a2 ⟨by omega,by omega⟩ ⟨by omega,by omega⟩).mono (by omega)
    ·have h1:=em1 19 0 0 1 0 t1 ⟨by omega,by omega⟩ ⟨by omega,by omega⟩
     have hb:=zFC cs fs _ _ b h1
     have hsb:=hb.shut (h1.mono (by omega))
     split
     ·split
      ·exact(hsb.patch _).mono (by omega)
      ·have h2:=(em1 18 0 0 0 0 hsb ⟨by omega,by omega⟩ ⟨by omega,by omega⟩).patch (gEs cs fs g ((folds x).take 1)).code.length
       have hl:=zFC cs fs _ _ l h2
       exact((hl.shut (hsb.mono (by omega))).patch _).mono (by omega)
     ·split
      ·exact((em1 _ _ _ _ _ hsb ⟨by omega,by omega⟩ ⟨by omega,by omega⟩).patch _).mono (by omega)
      ·split
       ·have a3:Bd (n+wEs x+1) { (name (gEs cs fs g (folds x)) nm).1 with large:=(name (gEs cs fs g (folds x)) nm).1.large||decide (8<(folds x).length -1) }:=⟨a2.code,a2.names,a2.vars,a2.nums,a2.locals,a2.dep,a2.most⟩
        exact(a3.em (m:=x.length) ⟨by omega,by omega⟩ ⟨by omega,by omega⟩).mono (by omega)
       ·split
        ·exact(em1 _ _ _ _ _ t1 ⟨by omega,by omega⟩ ⟨by omega,by omega⟩).mono (by omega)
        ·split
         ·exact(em1 _ _ _ _ _ a1 ⟨by omega,by omega⟩ ⟨by omega,by omega⟩).mono (by omega)
         ·split
          ·exact(em1 _ _ _ _ _ a2 ⟨by omega,by omega⟩ ⟨by omega,by omega⟩).mono (by omega)
          ·exact(em1 _ _ _ _ _ h ⟨by omega,by omega⟩ ⟨by omega,by omega⟩).mono (by omega)
theorem zFC (cs:List C) (fs:List ByteArray):∀(n:Nat) (g:G) (l:List S),Bd n g→Bd (n+wSs l) (gSs cs fs g l)
 |n,g,[],h=>by rw [gSs];exact h
 |n,g,s::r,h=>by
  rw [gSs,wSs,←Nat.add_assoc]
  exact zFC cs fs _ _ r (gS_bd cs fs n g s h)
end
end Co
end Go.Proofs.YtcnmfcgmnkncaaaGreatDoor
namespace Go.Proofs.YtcnmfcgmnkncaaaGreatDoor
open Go.RowKit
theorem zAK (a b:ByteArray):(a.toList == b.toList)=decide (a=b):=by
 rw [Bool.eq_iff_iff,beq_iff_eq,decide_eq_true_eq]
 constructor
 ·intro h
  have h2:a.data.toList=b.data.toList:=by rw [←Lib.toList_data,←Lib.toList_data];exact h
  cases a;cases b;simp only at h2;simp_all
 ·intro h;rw [h]
def inB (zs:Nat→ByteArray) (x:ByteArray) (n:Nat):Bool:=(List.range n).any fun j=>decide (zs j=x)
theorem zTZ {zs:Nat→ByteArray} {x:ByteArray} {n k:Nat} (hk:k<n) (h:zs k=x):inB zs x n=true:=by
 unfold inB;rw [List.any_eq_true];exact⟨k,by simpa using hk,by simpa using h⟩
theorem inB_no {zs:Nat→ByteArray} {x:ByteArray} {n:Nat} (h:∀j,j<n→zs j≠x):inB zs x n=false:=by
 unfold inB;rw [List.any_eq_false];intro j hj;simpa using h j (by simpa using hj)
theorem zAV {a b:Bool} (h:a=b):Ending.returned (.bool a)= .returned (.bool b):=by rw [h]
set_option maxHeartbeats 400000 in
theorem in_any (b off n c:Nat) (zs:Nat→ByteArray) (x:ByteArray) (w:World) (hn:n≤9223372036854775807) (hc:∀j,j<n→w.cell? ⟨b,off+j,none⟩=some (.string (zs j))):
 Calls Tryz.prog 106 #[.slice (some ⟨b,off,none⟩) n c,.string x] w fun e w'=>e= .returned (.bool (inB zs x n))∧w=w':=by
 have H:=zh hc
 clear hc
 go_enter Tryz.func106,Tryz.ntmps106
 go_wp2
 go_loop [5] (fun i=>∃k:Nat,k≤n∧i= .int .i64 k∧∀j,j<k→zs j≠x) (fun i=>n -(intOf i).toNat)
 case atStart=>exact ⟨0,Nat.zero_le _,rfl,fun j hj=>by omega⟩
 case round=>
  obtain⟨k,hk,rfl,hno⟩:=hrel
  have HN:=zh hno
  clear hno
  by_cases hlt:k<n
  ·have hcell:=H.out k hlt
   by_cases he:zs k=x
   ·have hf:=zh he
    have he':((zs k).toList == x.toList)=true:=by rw [zAK];simpa using he
    clear he
    go_wp2
    go_ret
    exact⟨zAV (zTZ hlt hf.out).symm,rfl⟩
   ·have hf:=zh he
    have he':((zs k).toList == x.toList)=false:=by rw [zAK];simpa using he
    clear he
    go_wp2
    go_round
    case rel=>
     refine⟨k+1,by omega,by go_num,fun j hj=>?_⟩
     by_cases e:j=k
     ·rw [e];exact hf.out
     ·exact HN.out j (by omega)
    case measure=>simp [intOf];omega
  ·go_wp2
   go_ret
   exact⟨zAV (inB_no fun j hj=>HN.out j (by omega)).symm,rfl⟩
set_option maxHeartbeats 400000 in
theorem zJ0 (w:World):
 Calls Tryz.prog 107 #[] w fun e w'=>e= .returned (.slice (some ⟨w.heap.size,0,none⟩) 24 24)∧w'=w.alloc (.cells ((Lex.keywords.map fun l=>Value.string ⟨l.toArray⟩).toArray) 9):=by
 go_enter Tryz.func107,Tryz.ntmps107
 go_wp2
 go_ret
 exact⟨rfl,rfl⟩
theorem zFS (s:ByteArray):s.data.toList.length=s.size:=(Lib.size_eq s).symm
theorem zE3 {α:Type} {p:α→Bool} {l:List α} {n:Nat} (hn:l.length=n) (h:∀j x,j<n→l[j]? =some x→p x=true):l.all p=true:=by
 rw [List.all_eq_true]
 intro x hx
 obtain⟨j,hj,e⟩:=List.mem_iff_getElem.1 hx
 exact h j x (by omega) (by rw [List.getElem?_eq_getElem hj,e])
theorem zH5 {α:Type} {p:α→Bool} {l:List α} {j:Nat} {x:α} (hj:l[j]? =some x) (h:p x=false):l.all p=false:=by
 rw [List.all_eq_false]
 exact⟨x,List.mem_of_getElem? hj,by rw [h];simp⟩
theorem zKG (w:World) (k o i:Int) (nm:ByteArray) (a:Bool) (v:Value):∀(j:Nat) (u:Value),(#[.int .i64 k,.int .i64 o,.int .i64 i,.string nm,.bool a,v]:Array Value)[j]? =some u→(w.alloc (.cells #[.int .i64 k,.int .i64 o,.int .i64 i,.string nm,.bool a,v] 37)).cell? ⟨w.heap.size,j,none⟩=some u:=fun j u h=>zP w _ _ j u h
theorem zHE {l:List Tr.E} {j:Nat} {x:Tr.E} (h:l[j]? =some x) (hv:Tr.validE x=false):Tr.validEs l=false:=by
 rw [Tr.zAX];exact zH5 h hv
theorem zF1 {l:List Tr.E} {n:Nat} (hn:l.length=n) (h:∀j x,j<n→l[j]? =some x→Tr.validE x=true):Tr.validEs l=true:=by
 rw [Tr.zAX];exact zE3 hn h
theorem zA4 (nm:ByteArray):nm.toList.isEmpty=decide (nm.size=0):=by
 have h1:=zAK nm ⟨#[]⟩
 have h2:(⟨#[]⟩:ByteArray).toList= []:=by first|rfl|simp|decide+kernel
 have h3:nm.toList.isEmpty=(nm.toList == []):=by cases nm.toList<;>rfl
 rw [h3,←h2,h1]
 rw [Bool.eq_iff_iff,decide_eq_true_eq,decide_eq_true_eq]
 constructor
 ·rintro rfl;rfl
 ·intro h
  cases nm with
  |mk d=>
   have:d= #[]:=Array.eq_empty_of_size_eq_zero h
   rw [this]
theorem zEG {nm:ByteArray} (h:nm.toList.isEmpty=true):nm.size=0:=by rw [zA4] at h;exact of_decide_eq_true h
theorem zCD {nm:ByteArray} (h:nm.toList.isEmpty=false):¬nm.size=0:=by rw [zA4] at h;exact of_decide_eq_false h
theorem okE_0 (i:Int) (nm:ByteArray) (n:Nat):Tr.okE 0 0 i nm false n=decide (n=0∧nm.size=0∧0≤i∧i≤2305843009213693951):=by
 unfold Tr.okE
 rw [if_pos rfl,Bool.and_false,decide_eq_false (fun h=>h.1 rfl),decide_eq_false (fun h=>h.2 rfl)]
 rfl
theorem zHL (o:Int) (nm:ByteArray) (n:Nat):Tr.okE 10 o 0 nm false n=decide (n=2∧nm.size=0∧0≤o∧o≤12):=by
 unfold Tr.okE
 rw [Bool.and_false,decide_eq_false (p:=(10:Int)≠0∧(0:Int)≠0) (fun h=>h.2 rfl),decide_eq_false (p:=(10:Int)≠10∧o≠0) (fun h=>h.1 rfl)]
 rfl
theorem zJO {k:Int} {nm:ByteArray} {n:Nat} (h:k<0∨10<k):Tr.okE k 0 0 nm false n=false:=by
 unfold Tr.okE
 rw [if_neg (by omega),if_neg (by omega),if_neg (by omega),if_neg (by omega),if_neg (by omega),if_neg (by omega),if_neg (by omega),if_neg (by omega),if_neg (by omega),if_neg (by omega),if_neg (by omega),Bool.and_false]
def stmtV (s:Tr.S) (x y z:Value):Value:= .agg #[.int .i64 s.kind,.string s.name,x,y,z]
section
variable (nm:ByteArray) (n nb ne:Nat)
theorem okS_0:Tr.okS 0 nm n nb ne=(decide (n=1∧nb=0∧ne=0) && Tr.varB nm):=rfl
theorem okS_1:Tr.okS 1 nm n nb ne=(decide (n=1∧nb=0∧ne=0) && Tr.varB nm):=rfl
theorem okS_2:Tr.okS 2 nm n nb ne=(decide (n=2∧nb=0∧ne=0) && Tr.varB nm):=rfl
theorem okS_3:Tr.okS 3 nm n nb ne=decide (n=1∧nm.size=0):=rfl
theorem okS_4:Tr.okS 4 nm n nb ne=decide (n=1∧nm.size=0∧ne=0):=rfl
theorem okS_5:Tr.okS 5 nm n nb ne=(decide (1≤n∧nb=0∧ne=0) && Tr.varB nm):=rfl
theorem okS_6:Tr.okS 6 nm n nb ne=decide (n=1∧nm.size=0∧nb=0∧ne=0):=rfl
theorem okS_7:Tr.okS 7 nm n nb ne=decide (n=2∧nm.size=0∧nb=0∧ne=0):=rfl
theorem okS_8:Tr.okS 8 nm n nb ne=(decide (n=2∧nb=0∧ne=0) && Tr.varB nm):=rfl
theorem okS_9:Tr.okS 9 nm n nb ne=decide (n=0∧nm.size=0∧nb=0∧ne=0):=rfl
theorem zPM {k:Int} {nm:ByteArray} {n nb ne:Nat} (h:k<0∨9<k):Tr.okS k nm n nb ne=false:=by
 unfold Tr.okS
 rw [if_neg (by omega),if_neg (by omega),if_neg (by omega),if_neg (by omega),if_neg (by omega),if_neg (by omega),if_neg (by omega),if_neg (by omega),if_neg (by omega),if_neg (by omega)]
end
theorem SlStr.form {w:World} {v:Value} {l:List ByteArray} (h:SlStr w v l):∃p c,v= .slice p l.length c:=by
 obtain⟨p,c,e,_⟩:=h;exact⟨p,c,e⟩
theorem SlM.form {w:World} {v:Value} {l:List Tr.M} (h:SlM w v l):∃p c,v= .slice p l.length c:=by
 obtain⟨p,c,e,_⟩:=h;exact⟨p,c,e⟩
theorem SlM.len {w:World} {v:Value} {l:List Tr.M} (h:SlM w v l):l.length≤maxLen:=by
 obtain⟨p,c,e,h1,_⟩:=h;exact h1
theorem SlM.get {w:World} {p:Option Addr} {n c:Nat} {l:List Tr.M} (h:SlM w (.slice p n c) l) {j:Nat} {m:Tr.M} (hj:l[j]? =some m):
 ∃b o x y,p=some ⟨b,o,none⟩∧b<w.heap.size∧CellsM w b (o+j*3) m x y∧m.name.size≤maxLen∧SlStr w x m.params∧SlS w y m.body:=by
 obtain⟨p',c',e,_,_,hx⟩:=h
 cases e
 obtain⟨h1,b,o,x,y,h2,h3,h4,h5,h6⟩:=hx j m hj
 exact⟨b,o,x,y,h2,h3,h4,h1,h5,h6⟩
theorem SlC.form {w:World} {v:Value} {l:List Tr.C} (h:SlC w v l):∃p c,v= .slice p l.length c:=by
 obtain⟨p,c,e,_⟩:=h;exact⟨p,c,e⟩
theorem SlC.len {w:World} {v:Value} {l:List Tr.C} (h:SlC w v l):l.length≤maxLen:=by
 obtain⟨p,c,e,h1,_⟩:=h;exact h1
theorem SlC.get {w:World} {p:Option Addr} {n c:Nat} {l:List Tr.C} (h:SlC w (.slice p n c) l) {j:Nat} {m:Tr.C} (hj:l[j]? =some m):
 ∃b o x y,p=some ⟨b,o,none⟩∧b<w.heap.size∧CellsC w b (o+j*4) m x y∧m.name.size≤maxLen∧SlStr w x m.fields∧SlM w y m.methods:=by
 obtain⟨p',c',e,_,_,hx⟩:=h
 cases e
 obtain⟨h1,b,o,x,y,h2,h3,h4,h5,h6⟩:=hx j m hj
 exact⟨b,o,x,y,h2,h3,h4,h1,h5,h6⟩
end Go.Proofs.YtcnmfcgmnkncaaaGreatDoor
namespace Go.Proofs.YtcnmfcgmnkncaaaGreatDoor
namespace Lex
theorem zBS {α:Type} (p:α→Bool):∀l:List α,l.takeWhile p=l.take (l.takeWhile p).length
 | []=>rfl
 |a::l=>by
  by_cases h:p a
  ·simp [h];exact zBS p l
  ·simp [h]
theorem zCU {α:Type} (p:α→Bool) (l:List α):(l.takeWhile p).length≤l.length:=(List.takeWhile_sublist p).length_le
theorem zD1 {α:Type} (p:α→Bool) (a:α) (l:List α) (h:p a=true):1≤((a::l).takeWhile p).length:=by
 rw [List.takeWhile_cons,if_pos h];simp
theorem zBO {c:UInt8} {r:Bytes} {k:Nat} {t:Bytes} {v:Nat} (h:next (c::r)= .tok k t v):t=(c::r).take t.length∧1≤t.length∧t.length≤(c::r).length:=by
 unfold next at h
 rw [List.headD_cons] at h
 by_cases hl:letter c=true
 ·rw [if_pos hl] at h
  unfold nameAt at h
  have h1:=zBS wordc (c::r)
  have h2:=zCU wordc (c::r)
  have h3:=zD1 wordc c r (by unfold wordc;rw [hl];rfl)
  generalize (c::r).takeWhile wordc=T at h h1 h2 h3
  simp only at h
  split at h
  ·cases h
  ·split at h
   ·cases h;exact⟨h1,h3,h2⟩
   ·split at h<;>(cases h;exact⟨h1,h3,h2⟩)
 ·rw [if_neg hl] at h
  by_cases hl:digit c=true
  ·rw [if_pos hl] at h
   unfold numberAt at h
   have h1:=zBS digit (c::r)
   have h2:=zCU digit (c::r)
   have h3:=zD1 digit c r hl
   generalize (c::r).takeWhile digit=T at h h1 h2 h3
   simp only at h
   split at h
   ·cases h
   ·split at h
    ·cases h
    ·split at h
     ·cases h
     ·cases h;exact⟨h1,h3,h2⟩
  ·rw [if_neg hl] at h
   unfold symbolAt at h
   split at h
   ·rename_i hl
    cases h
    have e:((c::r).take 2).length=2:=by rw [List.length_take];omega
    rw [e];exact⟨rfl,by omega,hl.1⟩
   ·split at h
    ·cases h
     have e:((c::r).take 1).length=1:=by rw [List.length_take];simp
     rw [e];exact⟨rfl,by omega,by simp⟩
    ·cases h
theorem zFO {l:Bytes} {e:Nat} (h:next l= .bad e):0<e:=by
 unfold next at h
 by_cases hl:letter (l.headD 0)=true
 ·rw [if_pos hl] at h
  unfold nameAt at h
  simp only at h
  split at h
  ·cases h;omega
  ·split at h
   ·cases h
   ·split at h<;>cases h
 ·rw [if_neg hl] at h
  by_cases hl:digit (l.headD 0)=true
  ·rw [if_pos hl] at h
   unfold numberAt at h
   simp only at h
   split at h
   ·cases h;omega
   ·split at h
    ·cases h;omega
    ·split at h
     ·cases h;omega
     ·cases h
  ·rw [if_neg hl] at h
   unfold symbolAt at h
   split at h
   ·cases h
   ·split at h
    ·cases h
    ·cases h;omega
def pre (ts:List Tok):Res→Res
 | .bad a e=> .bad a e
 | .toks l=> .toks (ts++l)
theorem zLB (r:Res):pre [] r=r:=by cases r<;>rfl
theorem zBZ (n f:Nat):scanF n f []= .toks [⟨0,[],0,n⟩]:=by cases f<;>rfl
theorem zD9 {n f:Nat} {c:UInt8} {r:Bytes} {e:Nat} (h:next (c::r)= .bad e):scanF n (f+1) (c::r)= .bad (n -(c::r).length) e:=by
 simp only [scanF,h]
theorem zF7 {n f:Nat} {c:UInt8} {r:Bytes} {k:Nat} {t:Bytes} {v:Nat} (h:next (c::r)= .tok k t v) (ts:List Tok):
 pre ts (scanF n (f+1) (c::r))=pre (ts++ [⟨k,t,v,n -(c::r).length⟩]) (scanF n f (skip false ((c::r).drop t.length))):=by
 simp only [scanF,h]
 cases scanF n f (skip false ((c::r).drop t.length))<;>simp [pre]
end Lex
end Go.Proofs.YtcnmfcgmnkncaaaGreatDoor
namespace Go.Proofs.YtcnmfcgmnkncaaaGreatDoor
namespace Tr
def tokB (k:Nat) (l:List UInt8):Bool:=
 match Lex.scan l with
 | .toks (t::_)=>t.kind == k && decide (t.text=l)
 |_=>false
theorem zET (c:UInt8):Lex.letter c=true↔(97≤c.toNat∧c.toNat≤122∨65≤c.toNat∧c.toNat≤90):=by unfold Lex.letter;rw [decide_eq_true_eq]
theorem zK2 {c:UInt8} {r:List UInt8} (h:Lex.letter c=true):Lex.skip false (c::r)=c::r:=by
 rw [zET] at h
 have h1:Lex.space c=false:=by unfold Lex.space;rw [decide_eq_false_iff_not];omega
 rw [Lex.skip,h1]
 simp only [Bool.false_eq_true,if_false]
 rw [if_neg (by omega)]
theorem zD2 {p:UInt8→Bool}:∀ {l:List UInt8},l.all p=true→l.takeWhile p=l
 | [],_=>rfl
 |c::r,h=>by
  rw [List.all_cons,Bool.and_eq_true] at h
  rw [List.takeWhile_cons,if_pos h.1,zD2 h.2]
theorem zCQ {p:UInt8→Bool}:∀ {l:List UInt8},l.takeWhile p=l→l.all p=true
 | [],_=>rfl
 |c::r,h=>by
  rw [List.takeWhile_cons] at h
  by_cases hc:p c=true
  ·rw [if_pos hc] at h
   rw [List.all_cons,hc,zCQ (List.cons.inj h).2];rfl
  ·rw [if_neg hc] at h;cases h
theorem zO8 {k:Nat} {l:List UInt8} (hl:l.length≤31) (hh:Lex.letter (l.headD 0)=true) (h:Lex.nameAt l= .tok k l 0) (hne:l≠ []):tokB k l=true:=by
 obtain⟨c,r,rfl⟩:∃c r,l=c::r:=by cases l with|nil=>exact absurd rfl hne|cons c r=>exact ⟨c,r,rfl⟩
 have hn:Lex.next (c::r)= .tok k (c::r) 0:=by unfold Lex.next;rw [if_pos hh];exact h
 have hs:Lex.scan (c::r)= .toks (⟨k,c::r,0,0⟩:: [⟨0,[],0,(c::r).length⟩]):=by
  unfold Lex.scan
  rw [if_neg (by omega),zK2 (by simpa using hh)]
  rw [show (c::r).length=r.length+1 from rfl,Lex.scanF,hn]
  simp only []
  rw [List.drop_eq_nil_of_le (by simp)]
  rw [show Lex.skip false []= [] from rfl,Lex.zBZ]
  simp
 unfold tokB
 rw [hs]
 simp
theorem zJQ {k:Nat} {l:List UInt8} (h:tokB k l=true) (hk:0<k):l≠ []∧∃v,Lex.next l= .tok k l v:=by
 unfold tokB at h
 cases hs:Lex.scan l with
 |bad a e=>rw [hs] at h;cases h
 |toks ts=>
  rw [hs] at h
  cases ts with
  |nil=>cases h
  |cons t ts=>
   simp only [Bool.and_eq_true,beq_iff_eq,decide_eq_true_eq] at h
   obtain⟨h1,h2⟩:=h
   unfold Lex.scan at hs
   split at hs
   ·cases hs
   ·have hle:=Lex.zAS false l
    cases hm:Lex.skip false l with
    |nil=>
     rw [hm,Lex.zBZ] at hs
     cases hs
     simp at h1
     omega
    |cons c r=>
     rw [hm] at hs hle
     cases hf:l.length with
     |zero=>rw [hf] at hle;simp at hle
     |succ f=>
      rw [hf,Lex.scanF] at hs
      cases hn:Lex.next (c::r) with
      |bad e=>rw [hn] at hs;cases hs
      |tok k' t' v'=>
       rw [hn] at hs
       simp only [] at hs
       cases hr:Lex.scanF (f+1) f (Lex.skip false ((c::r).drop t'.length)) with
       |bad a e=>rw [hr] at hs;cases hs
       |toks l'=>
        rw [hr] at hs
        simp only [Lex.Res.toks.injEq,List.cons.injEq] at hs
        obtain⟨ht,_⟩:=hs
        rw [←ht] at h1 h2
        simp only [] at h1 h2
        subst h1
        obtain⟨x1,x2,x3⟩:=Lex.zBO hn
        rw [h2] at x1 x3
        have:l=c::r:=by rw [x1];exact List.take_of_length_le hle
        rw [h2] at hn
        rw [←this] at hn
        exact⟨by rw [this];simp,v',hn⟩
theorem zI7 {k lo hi:Nat} (hk:k=2∧lo=97∧hi=122∨k=3∧lo=65∧hi=90) (l:List UInt8):tokB k l=nameL lo hi l:=by
 rw [Bool.eq_iff_iff]
 constructor
 ·intro h
  obtain⟨hne,v,hn⟩:=zJQ h (by omega)
  unfold Lex.next at hn
  split at hn
  ·rename_i hl
   unfold Lex.nameAt at hn
   simp only [] at hn
   split at hn
   ·cases hn
   ·rename_i h31
    split at hn
    ·have:=(Lex.Got.tok.inj hn).1;omega
    ·rename_i hkw
     have hw:l.takeWhile Lex.wordc=l:=by
      split at hn<;>exact (Lex.Got.tok.inj hn).2.1
     have hall:=zCQ hw
     rw [hw] at h31 hkw hn
     rw [zET] at hl
     unfold nameL
     rw [hall,Bool.and_true,Bool.and_eq_true,decide_eq_true_eq]
     refine⟨⟨hne,by omega,?_⟩,by simpa using hkw⟩
     split at hn
     ·rename_i h90
      have:=(Lex.Got.tok.inj hn).1
      omega
     ·rename_i h90
      have:=(Lex.Got.tok.inj hn).1
      omega
  ·split at hn
   ·unfold Lex.numberAt at hn
    simp only [] at hn
    (repeat' split at hn)<;>first|(have:=(Lex.Got.tok.inj hn).1;omega)|cases hn
   ·unfold Lex.symbolAt at hn
    (repeat' split at hn)<;>first|(have:=(Lex.Got.tok.inj hn).1;omega)|cases hn
 ·intro h
  unfold nameL at h
  rw [Bool.and_eq_true,Bool.and_eq_true,decide_eq_true_eq] at h
  obtain⟨⟨⟨hne,h31,h1,h2⟩,hkw⟩,hall⟩:=h
  have hw:=zD2 hall
  refine zO8 h31 ?_ ?_ hne
  ·rw [zET];omega
  ·unfold Lex.nameAt
   rw [hw]
   simp only []
   rw [if_neg (by omega),if_neg (by simpa using hkw)]
   rcases hk with ⟨rfl,rfl,rfl⟩|⟨rfl,rfl,rfl⟩
   ·rw [if_neg (by omega)]
   ·rw [if_pos (by omega)]
theorem zRF (s:ByteArray):tokB 2 s.data.toList=varB s:=zI7 (.inl ⟨rfl,rfl,rfl⟩) _
theorem zRG (s:ByteArray):tokB 3 s.data.toList=clsB s:=zI7 (.inr ⟨rfl,rfl,rfl⟩) _
end Tr
end Go.Proofs.YtcnmfcgmnkncaaaGreatDoor
namespace Go.Proofs.YtcnmfcgmnkncaaaGreatDoor
open Go.RowKit
def rest (s:ByteArray) (k:Nat):List UInt8:=s.data.toList.drop k
theorem zCF (s:ByteArray) (k:Nat):(rest s k).length=s.size -k:=by unfold rest;rw [List.length_drop,←Lib.size_eq]
theorem zPE (s:ByteArray) (k:Nat) (h:k<s.size):rest s k=s[k]::rest s (k+1):=by
 unfold rest
 rw [List.drop_eq_getElem_cons (by rw [←Lib.size_eq];exact h)]
 rfl
theorem zO2 (c:UInt8):Lex.space c=true↔(c.toNat=32∨c.toNat=9∨c.toNat=10∨c.toNat=13):=by unfold Lex.space;exact decide_eq_true_iff
theorem skip_t (c:UInt8) (r:List UInt8):Lex.skip true (c::r)=if c.toNat=10 then Lex.skip false r else Lex.skip true r:=rfl
theorem zL6 (c:UInt8) (r:List UInt8):Lex.skip false (c::r)=if Lex.space c then Lex.skip false r else if c.toNat=35 then Lex.skip true r else c::r:=rfl
theorem beq_no (c:UInt8) (m:Int) (h:¬(c.toNat:Int)=m):((c.toNat:Int) == m)=false:=by rw [beq_eq_false_iff_ne];exact h
theorem zOY (s:ByteArray) (k:Nat) (h:k<s.size):s.data.toList.take (k+1)=s.data.toList.take k++ [s[k]]:=by
 rw [List.take_succ_eq_append_getElem (by simpa using h)];rfl
theorem zMO (s:ByteArray) (h:0<s.size):s.data.toList.headD 0=s[0]:=by
 have:=zPE s 0 h
 unfold rest at this
 rw [List.drop_zero] at this
 rw [this];rfl
def tokV (k:Int) (t:List UInt8) (v p:Int):Value:= .agg #[.int .i64 k,.string ⟨t.toArray⟩,.int .i64 v,.int .i64 p]
def gotV (p:Int):Lex.Got→Value
 | .bad e=> .tuple #[tokV 0 [] 0 0,.int .i64 e]
 | .tok k t v=> .tuple #[tokV k t v p,.int .i64 0]
theorem zDJ {α:Type} (p:α→Bool):∀l:List α,l.take (l.takeWhile p).length=l.takeWhile p
 | []=>rfl
 |a::l=>by
  by_cases h:p a
  ·simp [h,zDJ p l]
  ·simp [h]
def kwz (j:Nat):ByteArray:=⟨(Lex.keywords.getD j []).toArray⟩
theorem zO1 (ls:List (List UInt8)) {W:World} {h0:Array Obj} {t:TypeId} {b:Nat} (hW:W.heap=h0.push (.cells ((ls.map fun l=>Value.string ⟨l.toArray⟩).toArray) t)) (hb:b=h0.size) (j:Nat) (hj:j<ls.length):
 W.cell? ⟨b,0+j,none⟩=some (.string ⟨(ls.getD j []).toArray⟩):=by
 rw [Nat.zero_add]
 unfold World.cell?
 simp [hW,hb,hj]
theorem zEE {l T:List UInt8} (h:l.takeWhile Lex.wordc=T):Lex.nameAt l=if 31<T.length then .bad 8 else if Lex.keywords.contains T then .tok 4 T 0 else if (T.headD 0).toNat≤90 then .tok 3 T 0 else .tok 2 T 0:=by
 unfold Lex.nameAt;rw [h]
theorem zNN {l T:List UInt8} (h:l.takeWhile Lex.wordc=T) (h1:31<T.length):Lex.nameAt l= .bad 8:=by rw [zEE h,if_pos h1]
theorem zED {l T:List UInt8} (h:l.takeWhile Lex.digit=T) (h1:(l.drop T.length).head?.any Lex.tailc=true):Lex.numberAt l= .bad 3:=by
 unfold Lex.numberAt;rw [h];rw [if_pos h1]
theorem zCG {l T:List UInt8} (h:l.takeWhile Lex.digit=T) (h1:(l.drop T.length).head?.any Lex.tailc=false):
 Lex.numberAt l=if 1<T.length∧T.headD 0=48 then .bad 3 else if 2305843009213693951<Lex.value T then .bad 2 else .tok 1 T (Lex.value T):=by
 unfold Lex.numberAt;rw [h];simp only [h1,Bool.false_eq_true,if_false]
def syz (j:Nat):ByteArray:=⟨(Lex.symbols.getD j []).toArray⟩
theorem zI9 {l:List UInt8} (h:2≤l.length) (h1:Lex.symbols.contains (l.take 2)=true):Lex.symbolAt l= .tok 5 (l.take 2) 0:=by
 unfold Lex.symbolAt;rw [if_pos ⟨h,h1⟩]
theorem zJA {l:List UInt8} (h:¬(2≤l.length∧Lex.symbols.contains (l.take 2)=true)) (h1:Lex.symbols.contains (l.take 1)=true):Lex.symbolAt l= .tok 5 (l.take 1) 0:=by
 unfold Lex.symbolAt;rw [if_neg h,h1];rfl
theorem zF5 {l:List UInt8} (h:¬(2≤l.length∧Lex.symbols.contains (l.take 2)=true)) (h1:Lex.symbols.contains (l.take 1)=false):Lex.symbolAt l= .bad 3:=by
 unfold Lex.symbolAt;rw [if_neg h,h1];rfl
def ToksAt (w:World) (b:Nat) (ts:List Lex.Tok):Prop:=
 ∀(j:Nat) (t:Lex.Tok),ts[j]? =some t→w.cell? ⟨b,j*4,none⟩=some (.int .i64 t.kind)∧w.cell? ⟨b,j*4+1,none⟩=some (.string ⟨t.text.toArray⟩)∧
  w.cell? ⟨b,j*4+2,none⟩=some (.int .i64 t.val)∧w.cell? ⟨b,j*4+3,none⟩=some (.int .i64 t.pos)
def tokCells (t:Lex.Tok):List Value:= [.int .i64 (t.kind:Nat),.string ⟨t.text.toArray⟩,.int .i64 (t.val:Nat),.int .i64 (t.pos:Nat)]
def toksCells (ts:List Lex.Tok):List Value:=ts.flatMap tokCells
def ScanPost (s:ByteArray) (w:World) (e:Ending) (w':World):Prop:=
 (∃a er:Nat,Lex.scan s.data.toList= .bad a er∧e= .returned (.tuple #[.slice none 0 0,.int .i64 a,.int .i64 er])∧Below w.heap.size w w')∨
 (∃(ts:List Lex.Tok) (v:Value),Lex.scan s.data.toList= .toks ts∧e= .returned (.tuple #[v,.int .i64 0,.int .i64 0])∧w'.ownsRow w.heap.size 203 4 v ts.length (toksCells ts)∧Below w.heap.size w w')
theorem tokInfo:(Tryz.prog.info? 203).map (fun i=>(i.zero,i.size,i.bytes))=some (some (.agg #[.int .i64 0,.string ⟨#[]⟩,.int .i64 0,.int .i64 0]),4,40):=by kernel_rfl
theorem zDI (ts:List Lex.Tok) (t:Lex.Tok):toksCells (ts++ [t])=toksCells ts++tokCells t:=by simp [toksCells]
theorem zBK {W:World} {h0:Array Obj} {cs:Array Value} {t:TypeId} {b:Nat} (hW:W.heap=h0.push (.cells cs t)) (hb:b=h0.size) (j:Nat) (u:Value) (h:cs.toList[j]? =some u):
 W.cell? ((⟨b,0,none⟩:Addr).add j)=some u:=by
 have hadd:(⟨b,0,none⟩:Addr).add j=⟨b,j,none⟩:=by unfold Addr.add;split<;>simp_all
 rw [hadd]
 unfold World.cell?
 simp [hW,hb]
 simpa using h
theorem zCO {w w':World} (h:Below w.heap.size w w'):w.grownBy w' none:=⟨h.os,h.tape,h.output,h.size,fun k hk _=>h.block k hk⟩
theorem zBN {w w':World} {base:Nat} {e:TypeId} {size:Nat} {v:Value} {n:Nat} {xs:List Value} (h:w.ownsRow base e size v n xs) (hb:Below w.heap.size w w'):w'.ownsRow base e size v n xs:=
 h.kept (zCO hb) (by cases v.ownBlock<;>simp)
theorem zJJ (s:ByteArray) (k:Nat) (hk:k≤s.size):rest s (s.size -(Lex.skip false (rest s k)).length)=Lex.skip false (rest s k):=by
 have h:=Lex.zCX false (rest s k)
 have hle:=Lex.zAS false (rest s k)
 rw [zCF] at h hle
 conv=>rhs;rw [h]
 unfold rest
 rw [List.drop_drop]
 congr 1
 unfold rest at hle
 omega
end Go.Proofs.YtcnmfcgmnkncaaaGreatDoor
namespace Go.Proofs
open Go.Shelf
def Tryz.lays161_ren:Go.Shelf.Ren:=⟨fun|161=>193|231=>205|227=>206|233=>207|235=>208|228=>217|197=>218|151=>219|260=>229|152=>230|137=>195|119=>240|224=>238|225=>237|217=>210|266=>220|n=>n,fun|9=>9|4=>4|3=>3|5=>5|117=>251|116=>250|0=>0|124=>254|105=>260|21=>21|119=>276|46=>204|139=>279|138=>278|n=>n,fun|3=>11|4=>12|n=>n⟩
theorem Tryz.lays161:Go.Proofs.Lays.n161 Tryz.prog Tryz.lays161_ren:= {
 mixed:=by kernel_rfl
 f119:=Tryz.func240.trans (congrArg some (by kernel_rfl))
 f137:=Tryz.func195.trans (congrArg some (by kernel_rfl))
 f151:=Tryz.func219.trans (congrArg some (by kernel_rfl))
 f152:=Tryz.func230.trans (congrArg some (by kernel_rfl))
 f161:=Tryz.func193.trans (congrArg some (by kernel_rfl))
 f197:=Tryz.func218.trans (congrArg some (by kernel_rfl))
 f217:=Tryz.func210.trans (congrArg some (by kernel_rfl))
 f224:=Tryz.func238.trans (congrArg some (by kernel_rfl))
 f225:=Tryz.func237.trans (congrArg some (by kernel_rfl))
 f227:=Tryz.func206.trans (congrArg some (by kernel_rfl))
 f228:=Tryz.func217.trans (congrArg some (by kernel_rfl))
 f231:=Tryz.func205.trans (congrArg some (by kernel_rfl))
 f233:=Tryz.func207.trans (congrArg some (by kernel_rfl))
 f235:=Tryz.func208.trans (congrArg some (by kernel_rfl))
 f260:=Tryz.func229.trans (congrArg some (by kernel_rfl))
 f266:=Tryz.func220.trans (congrArg some (by kernel_rfl))
 t0:=Tryz.underlying0
 a0:=Tryz.isAgg0
 z0:=Tryz.sizeOf0
 v0:=Tryz.zeroValue0
 t3:=Tryz.underlying3
 a3:=Tryz.isAgg3
 z3:=Tryz.sizeOf3
 v3:=Tryz.zeroValue3
 t4:=Tryz.underlying4
 a4:=Tryz.isAgg4
 z4:=Tryz.sizeOf4
 v4:=Tryz.zeroValue4
 t5:=Tryz.underlying5
 a5:=Tryz.isAgg5
 z5:=Tryz.sizeOf5
 v5:=Tryz.zeroValue5
 t9:=Tryz.underlying9
 a9:=Tryz.isAgg9
 z9:=Tryz.sizeOf9
 v9:=Tryz.zeroValue9
 t21:=Tryz.underlying21
 a21:=Tryz.isAgg21
 z21:=Tryz.sizeOf21
 v21:=Tryz.zeroValue21
 t46:=Tryz.underlying204
 a46:=Tryz.isAgg204
 z46:=Tryz.sizeOf204
 v46:=Tryz.zeroValue204
 t105:=Tryz.underlying260
 a105:=Tryz.isAgg260
 z105:=Tryz.sizeOf260
 v105:=Tryz.zeroValue260
 t116:=Tryz.underlying250
 a116:=Tryz.isAgg250
 z116:=Tryz.sizeOf250
 t117:=Tryz.underlying251
 a117:=Tryz.isAgg251
 z117:=Tryz.sizeOf251
 v117:=Tryz.zeroValue251
 t119:=Tryz.underlying276
 a119:=Tryz.isAgg276
 z119:=Tryz.sizeOf276
 t124:=Tryz.underlying254
 a124:=Tryz.isAgg254
 z124:=Tryz.sizeOf254
 v124:=Tryz.zeroValue254
 t138:=Tryz.underlying278
 a138:=Tryz.isAgg278
 z138:=Tryz.sizeOf278
 v138:=Tryz.zeroValue278
 t139:=Tryz.underlying279
 a139:=Tryz.isAgg279
 z139:=Tryz.sizeOf279
 v139:=Tryz.zeroValue279
 g3:=by kernel_rfl
 g4:=by kernel_rfl }
def Tryz.lays137_ren:Go.Shelf.Ren:=⟨fun|137=>195|217=>210|266=>220|n=>n,fun|9=>9|5=>5|3=>3|n=>n,fun|n=>n⟩
theorem Tryz.lays137:Go.Proofs.Lays.n137 Tryz.prog Tryz.lays137_ren:= {
 mixed:=by kernel_rfl
 f137:=Tryz.func195.trans (congrArg some (by kernel_rfl))
 f217:=Tryz.func210.trans (congrArg some (by kernel_rfl))
 f266:=Tryz.func220.trans (congrArg some (by kernel_rfl))
 t3:=Tryz.underlying3
 a3:=Tryz.isAgg3
 z3:=Tryz.sizeOf3
 v3:=Tryz.zeroValue3
 t5:=Tryz.underlying5
 a5:=Tryz.isAgg5
 z5:=Tryz.sizeOf5
 v5:=Tryz.zeroValue5
 t9:=Tryz.underlying9
 a9:=Tryz.isAgg9
 z9:=Tryz.sizeOf9
 v9:=Tryz.zeroValue9 }
open Go.RowKit in
theorem Tryz.strings_IndexByte (s:ByteArray) (c:Int) (w:World):
 Calls Tryz.prog 195 #[.string s,.int .u8 c] w fun e w'=>e= .returned (.int .i64 (Lib.indexByte s.data.toList c.toNat.toUInt8))∧w'=w:=Any.strings_IndexByte Tryz.lays137 s c w
def Tryz.laysC174_ren:Go.Shelf.Ren:=⟨fun|174=>202|247=>213|245=>214|287=>221|279=>222|280=>223|281=>224|282=>225|321=>231|322=>232|316=>233|171=>235|205=>234|243=>241|246=>163|283=>182|284=>183|285=>184|286=>185|129=>197|317=>196|318=>198|319=>199|320=>200|337=>211|338=>212|n=>n,fun|9=>9|3=>3|2=>2|75=>245|85=>246|4=>4|167=>265|5=>5|53=>164|175=>266|46=>204|168=>268|37=>228|0=>0|210=>274|21=>21|127=>281|145=>284|143=>282|171=>225|173=>229|212=>240|51=>241|20=>20|213=>242|232=>263|233=>264|80=>287|n=>n,fun|15=>9|16=>10|17=>3|18=>6|19=>7|n=>n⟩
theorem Tryz.laysC174:Go.Proofs.LaysC.n174 Tryz.prog Tryz.laysC174_ren:= {
 mixed:=by kernel_rfl
 f129:=Tryz.func197.trans (congrArg some (by kernel_rfl))
 f171:=Tryz.func235.trans (congrArg some (by kernel_rfl))
 f174:=Tryz.func202.trans (congrArg some (by kernel_rfl))
 f205:=Tryz.func234.trans (congrArg some (by kernel_rfl))
 f243:=Tryz.func241.trans (congrArg some (by kernel_rfl))
 f245:=Tryz.func214.trans (congrArg some (by kernel_rfl))
 f246:=Tryz.func163.trans (congrArg some (by kernel_rfl))
 f247:=Tryz.func213.trans (congrArg some (by kernel_rfl))
 f279:=Tryz.func222.trans (congrArg some (by kernel_rfl))
 f280:=Tryz.func223.trans (congrArg some (by kernel_rfl))
 f281:=Tryz.func224.trans (congrArg some (by kernel_rfl))
 f282:=Tryz.func225.trans (congrArg some (by kernel_rfl))
 f283:=Tryz.func182.trans (congrArg some (by kernel_rfl))
 f284:=Tryz.func183.trans (congrArg some (by kernel_rfl))
 f285:=Tryz.func184.trans (congrArg some (by kernel_rfl))
 f286:=Tryz.func185.trans (congrArg some (by kernel_rfl))
 f287:=Tryz.func221.trans (congrArg some (by kernel_rfl))
 f316:=Tryz.func233.trans (congrArg some (by kernel_rfl))
 f317:=Tryz.func196.trans (congrArg some (by kernel_rfl))
 f318:=Tryz.func198.trans (congrArg some (by kernel_rfl))
 f319:=Tryz.func199.trans (congrArg some (by kernel_rfl))
 f320:=Tryz.func200.trans (congrArg some (by kernel_rfl))
 f321:=Tryz.func231.trans (congrArg some (by kernel_rfl))
 f322:=Tryz.func232.trans (congrArg some (by kernel_rfl))
 f337:=Tryz.func211.trans (congrArg some (by kernel_rfl))
 f338:=Tryz.func212.trans (congrArg some (by kernel_rfl))
 t0:=Tryz.underlying0
 a0:=Tryz.isAgg0
 z0:=Tryz.sizeOf0
 v0:=Tryz.zeroValue0
 t2:=Tryz.underlying2
 a2:=Tryz.isAgg2
 z2:=Tryz.sizeOf2
 v2:=Tryz.zeroValue2
 t3:=Tryz.underlying3
 a3:=Tryz.isAgg3
 z3:=Tryz.sizeOf3
 v3:=Tryz.zeroValue3
 t4:=Tryz.underlying4
 a4:=Tryz.isAgg4
 z4:=Tryz.sizeOf4
 v4:=Tryz.zeroValue4
 t5:=Tryz.underlying5
 a5:=Tryz.isAgg5
 z5:=Tryz.sizeOf5
 v5:=Tryz.zeroValue5
 t9:=Tryz.underlying9
 a9:=Tryz.isAgg9
 z9:=Tryz.sizeOf9
 v9:=Tryz.zeroValue9
 t20:=Tryz.underlying20
 a20:=Tryz.isAgg20
 z20:=Tryz.sizeOf20
 v20:=Tryz.zeroValue20
 t21:=Tryz.underlying21
 a21:=Tryz.isAgg21
 z21:=Tryz.sizeOf21
 v21:=Tryz.zeroValue21
 t37:=Tryz.underlying228
 a37:=Tryz.isAgg228
 z37:=Tryz.sizeOf228
 v37:=Tryz.zeroValue228
 t46:=Tryz.underlying204
 a46:=Tryz.isAgg204
 z46:=Tryz.sizeOf204
 v46:=Tryz.zeroValue204
 t51:=Tryz.underlying241
 a51:=Tryz.isAgg241
 z51:=Tryz.sizeOf241
 v51:=Tryz.zeroValue241
 t53:=Tryz.underlying164
 a53:=Tryz.isAgg164
 z53:=Tryz.sizeOf164
 v53:=Tryz.zeroValue164
 t75:=Tryz.underlying245
 a75:=Tryz.isAgg245
 z75:=Tryz.sizeOf245
 v75:=Tryz.zeroValue245
 t85:=Tryz.underlying246
 a85:=Tryz.isAgg246
 z85:=Tryz.sizeOf246
 v85:=Tryz.zeroValue246
 t127:=Tryz.underlying281
 a127:=Tryz.isAgg281
 z127:=Tryz.sizeOf281
 v127:=Tryz.zeroValue281
 t143:=Tryz.underlying282
 a143:=Tryz.isAgg282
 z143:=Tryz.sizeOf282
 v143:=Tryz.zeroValue282
 t145:=Tryz.underlying284
 a145:=Tryz.isAgg284
 z145:=Tryz.sizeOf284
 v145:=Tryz.zeroValue284
 t167:=Tryz.underlying265
 a167:=Tryz.isAgg265
 z167:=Tryz.sizeOf265
 v167:=Tryz.zeroValue265
 t168:=Tryz.underlying268
 a168:=Tryz.isAgg268
 z168:=Tryz.sizeOf268
 v168:=Tryz.zeroValue268
 t171:=Tryz.underlying225
 a171:=Tryz.isAgg225
 z171:=Tryz.sizeOf225
 v171:=Tryz.zeroValue225
 t173:=Tryz.underlying229
 a173:=Tryz.isAgg229
 z173:=Tryz.sizeOf229
 v173:=Tryz.zeroValue229
 t175:=Tryz.underlying266
 a175:=Tryz.isAgg266
 z175:=Tryz.sizeOf266
 v175:=Tryz.zeroValue266
 t210:=Tryz.underlying274
 a210:=Tryz.isAgg274
 z210:=Tryz.sizeOf274
 v210:=Tryz.zeroValue274
 t212:=Tryz.underlying240
 a212:=Tryz.isAgg240
 z212:=Tryz.sizeOf240
 v212:=Tryz.zeroValue240
 t213:=Tryz.underlying242
 a213:=Tryz.isAgg242
 z213:=Tryz.sizeOf242
 t232:=Tryz.underlying263
 a232:=Tryz.isAgg263
 z232:=Tryz.sizeOf263
 v232:=Tryz.zeroValue263
 t233:=Tryz.underlying264
 a233:=Tryz.isAgg264
 z233:=Tryz.sizeOf264
 v233:=Tryz.zeroValue264
 g15:=by kernel_rfl
 g16:=by kernel_rfl
 g17:=by kernel_rfl
 g18:=by kernel_rfl
 g19:=by kernel_rfl
 t80:=Tryz.underlying287
 a80:=Tryz.isAgg287
 z80:=Tryz.sizeOf287
 v80:=Tryz.zeroValue287
 i0:=by kernel_rfl
 i2:=by kernel_rfl
 i3:=by kernel_rfl
 i4:=by kernel_rfl
 i5:=by kernel_rfl
 i9:=by kernel_rfl
 i20:=by kernel_rfl
 i21:=by kernel_rfl
 i37:=by kernel_rfl
 i46:=by kernel_rfl
 i51:=by kernel_rfl
 i53:=by kernel_rfl
 i75:=by kernel_rfl
 i80:=by kernel_rfl
 i85:=by kernel_rfl
 i127:=by kernel_rfl
 i143:=by kernel_rfl
 i145:=by kernel_rfl
 i167:=by kernel_rfl
 i168:=by kernel_rfl
 i171:=by kernel_rfl
 i173:=by kernel_rfl
 i175:=by kernel_rfl
 i210:=by kernel_rfl
 i212:=by kernel_rfl
 i232:=by kernel_rfl
 i233:=by kernel_rfl
 m15:=by kernel_rfl
 m16:=by kernel_rfl
 m17:=by kernel_rfl
 m18:=by kernel_rfl
 m19:=by kernel_rfl
 c0:=by kernel_rfl
 c2:=by kernel_rfl
 c3:=by kernel_rfl
 c4:=by kernel_rfl
 c5:=by kernel_rfl
 c9:=by kernel_rfl
 c20:=by kernel_rfl
 c21:=by kernel_rfl
 c37:=by kernel_rfl
 c46:=by kernel_rfl
 c51:=by kernel_rfl
 c53:=by kernel_rfl
 c75:=by kernel_rfl
 c80:=by kernel_rfl
 c85:=by kernel_rfl
 c127:=by kernel_rfl
 c143:=by kernel_rfl
 c145:=by kernel_rfl
 c167:=by kernel_rfl
 c168:=by kernel_rfl
 c171:=by kernel_rfl
 c173:=by kernel_rfl
 c175:=by kernel_rfl
 c210:=by kernel_rfl
 c212:=by kernel_rfl
 c213:=by kernel_rfl
 c232:=by kernel_rfl
 c233:=by kernel_rfl }
open Go.RowKit in
theorem Tryz.strconv_ParseInt_10_at64_ok (s:ByteArray) (hmax:s.size≤9223372036854775806) (v:Int) (h:Lib.parseIntB 64 s.data.toList= .ok v) (w:World):
 Calls Tryz.prog 202 #[.string s,.int .i64 10,.int .i64 64] w fun e w'=>e= .returned (.tuple #[.int .i64 v,.nilIface])∧(w'=w∨∃t,w'=Lib.bytesWorld w 5 t):=Any.strconv_ParseInt_10_at64_ok Tryz.laysC174 s hmax v h w
open Go.RowKit in
theorem Tryz.strconv_ParseInt_10_at64_range (s:ByteArray) (hlim:s.size≤281474976710656) (h:Lib.parseIntB 64 s.data.toList= .range) (ev:Value) (w:World) (hv:w.cell? ⟨10,0,none⟩=some ev) (hev:ev= .nilIface∨∃te pe,ev= .iface te pe):
 Calls Tryz.prog 202 #[.string s,.int .i64 10,.int .i64 64] w fun e w'=>∃N,e= .returned (.tuple #[.int .i64 (Lib.intSat 64 s.data.toList),.iface 268 (.pointer (some ⟨N,0,none⟩))])∧w.heap.size≤N∧w'.heap[N]? =some (.cells #[.string ⟨#[80,97,114,115,101,73,110,116]⟩,.string s,ev] 274 (0,0))∧Below w.heap.size w w':=Any.strconv_ParseInt_10_at64_range Tryz.laysC174 s hlim h ev w hv hev
def Tryz.lays144_ren:Go.Shelf.Ren:=⟨fun|144=>204|143=>216|219=>228|217=>210|225=>237|224=>238|267=>239|266=>220|314=>242|n=>n,fun|9=>9|4=>4|3=>3|5=>5|46=>204|146=>285|51=>241|n=>n,fun|1=>8|n=>n⟩
theorem Tryz.lays144:Go.Proofs.Lays.n144 Tryz.prog Tryz.lays144_ren:= {
 mixed:=by kernel_rfl
 f143:=Tryz.func216.trans (congrArg some (by kernel_rfl))
 f144:=Tryz.func204.trans (congrArg some (by kernel_rfl))
 f217:=Tryz.func210.trans (congrArg some (by kernel_rfl))
 f219:=Tryz.func228.trans (congrArg some (by kernel_rfl))
 f224:=Tryz.func238.trans (congrArg some (by kernel_rfl))
 f225:=Tryz.func237.trans (congrArg some (by kernel_rfl))
 f266:=Tryz.func220.trans (congrArg some (by kernel_rfl))
 f267:=Tryz.func239.trans (congrArg some (by kernel_rfl))
 f314:=Tryz.func242.trans (congrArg some (by kernel_rfl))
 t3:=Tryz.underlying3
 a3:=Tryz.isAgg3
 z3:=Tryz.sizeOf3
 v3:=Tryz.zeroValue3
 t4:=Tryz.underlying4
 a4:=Tryz.isAgg4
 z4:=Tryz.sizeOf4
 v4:=Tryz.zeroValue4
 t5:=Tryz.underlying5
 a5:=Tryz.isAgg5
 z5:=Tryz.sizeOf5
 v5:=Tryz.zeroValue5
 t9:=Tryz.underlying9
 a9:=Tryz.isAgg9
 z9:=Tryz.sizeOf9
 v9:=Tryz.zeroValue9
 t46:=Tryz.underlying204
 a46:=Tryz.isAgg204
 z46:=Tryz.sizeOf204
 v46:=Tryz.zeroValue204
 t51:=Tryz.underlying241
 a51:=Tryz.isAgg241
 z51:=Tryz.sizeOf241
 v51:=Tryz.zeroValue241
 t146:=Tryz.underlying285
 a146:=Tryz.isAgg285
 z146:=Tryz.sizeOf285
 v146:=Tryz.zeroValue285
 g1:=by kernel_rfl }
open Go.RowKit Go.Lib in
theorem Tryz.strings_Contains_one (s:ByteArray) (c:UInt8) (w:World):
 Calls Tryz.prog 204 #[.string s,.string ⟨#[c]⟩] w fun e w'=>e= .returned (.bool (decide (0≤Lib.indexByte s.data.toList c)))∧w'=w:=Any.strings_Contains_one Tryz.lays144 s c w
def Tryz.lays99_ren:Go.Shelf.Ren:=⟨fun|99=>194|206=>209|n=>n,fun|9=>9|4=>4|3=>3|n=>n,fun|n=>n⟩
theorem Tryz.lays99:Go.Proofs.Lays.n99 Tryz.prog Tryz.lays99_ren:= {
 mixed:=by kernel_rfl
 f99:=Tryz.func194.trans (congrArg some (by kernel_rfl))
 f206:=Tryz.func209.trans (congrArg some (by kernel_rfl))
 t3:=Tryz.underlying3
 a3:=Tryz.isAgg3
 z3:=Tryz.sizeOf3
 v3:=Tryz.zeroValue3
 t4:=Tryz.underlying4
 a4:=Tryz.isAgg4
 z4:=Tryz.sizeOf4
 v4:=Tryz.zeroValue4
 t9:=Tryz.underlying9
 a9:=Tryz.isAgg9
 z9:=Tryz.sizeOf9
 v9:=Tryz.zeroValue9 }
open Go.RowKit Go.Lib in
theorem Tryz.strings_HasPrefix (s p:ByteArray) (w:World):
 Calls Tryz.prog 194 #[.string s,.string p] w fun e w'=>e= .returned (.bool (Lib.hasPrefix s.data.toList p.data.toList))∧w'=w:=Any.strings_HasPrefix Tryz.lays99 s p w
def Tryz.lays110_ren:Go.Shelf.Ren:=⟨fun|110=>129|109=>134|n=>n,fun|31=>49|9=>9|4=>4|3=>3|0=>0|n=>n,fun|n=>n⟩
theorem Tryz.lays110:Go.Proofs.Lays.n110 Tryz.prog Tryz.lays110_ren:= {
 mixed:=by kernel_rfl
 f109:=Tryz.func134.trans (congrArg some (by kernel_rfl))
 f110:=Tryz.func129.trans (congrArg some (by kernel_rfl))
 t0:=Tryz.underlying0
 a0:=Tryz.isAgg0
 z0:=Tryz.sizeOf0
 v0:=Tryz.zeroValue0
 t3:=Tryz.underlying3
 a3:=Tryz.isAgg3
 z3:=Tryz.sizeOf3
 v3:=Tryz.zeroValue3
 t4:=Tryz.underlying4
 a4:=Tryz.isAgg4
 z4:=Tryz.sizeOf4
 v4:=Tryz.zeroValue4
 t9:=Tryz.underlying9
 a9:=Tryz.isAgg9
 z9:=Tryz.sizeOf9
 v9:=Tryz.zeroValue9
 t31:=Tryz.underlying49
 a31:=Tryz.isAgg49
 z31:=Tryz.sizeOf49
 v31:=Tryz.zeroValue49 }
open Go.Lib in
theorem Tryz.slices_Contains_string (b off n c:Nat) (zs:List ByteArray) (x:ByteArray) (w:World) (hz:n≤zs.length) (hbig:n≤9223372036854775807) (hc:∀j,j<zs.length→w.cell? ⟨b,off+j,none⟩=some (.string (zs.getD j ByteArray.empty))):
 Calls Tryz.prog 129 #[.slice (some ⟨b,off,none⟩) n c,.string x] w fun e w'=>e= .returned (.bool (Lib.containsS (zs.take n) x))∧w'=w:=Any.slices_Contains_string Tryz.lays110 b off n c zs x w hz hbig hc
open Go.Lib in
theorem Tryz.slices_Contains_string_empty (a:Option Addr) (c:Nat) (x:ByteArray) (w:World):
 Calls Tryz.prog 129 #[.slice a 0 c,.string x] w fun e w'=>e= .returned (.bool false)∧w'=w:=Any.slices_Contains_string_empty Tryz.lays110 a c x w
end Go.Proofs
