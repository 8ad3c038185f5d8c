/-
  Several texts in one: CoFew, CoCode, CoMethod, CkSet.
-/
import Derived.Test.YtcnmfcgmnkncaaaGreatDoorJ15
import Derived.Laws.ResultCell
import Derived.Maps.OwnSet
import Derived.StringKeys
namespace Go.Proofs.YtcnmfcgmnkncaaaGreatDoor
namespace Co
open Tr
theorem zFB {e:E} {r:List E} {n:Int} (h:0≤leftEs (e::r) n):0≤n∧0≤leftE e n∧leftEs (e::r) n=leftEs r (leftE e n):=by
 by_cases h0:n<0
 ·rw [leftEs,if_pos h0] at h;omega
 ·rw [leftEs,if_neg h0] at h ⊢
  refine⟨by omega,?_,rfl⟩
  rcases Int.lt_or_le (leftE e n) 0 with hlt|hge
  ·rw [zEU hlt] at h;omega
  ·exact hge
mutual
theorem zOS:∀(e:E) (n:Int),0≤leftE e n→(wE e:Int)+1≤17*(n -leftE e n)
 | .mk k o i nm a l,n,h=>by
   rw [leftE] at h ⊢
   by_cases h4:40<nm.size
   ·rw [if_pos h4] at h;omega
   ·rw [if_neg h4] at h ⊢
    have b1:=zH7 l (n -1) h
    rw [wE]
    omega
theorem zH7:∀(l:List E) (n:Int),0≤leftEs l n→(wEs l:Int)+l.length≤17*(n -leftEs l n)
 | [],n,h=>by rw [wEs,leftEs];simp
 |e::r,n,h=>by
  obtain⟨a1,a2,a3⟩:=zFB h
  rw [a3] at h ⊢
  have b1:=zOS e n a2
  have c1:=zH7 r _ h
  rw [wEs,List.length_cons]
  omega
end
theorem zJW {e:S} {r:List S} {n:Int} (h:0≤leftSs (e::r) n):0≤n∧0≤leftS e n∧leftSs (e::r) n=leftSs r (leftS e n):=by
 by_cases h0:n<0
 ·rw [leftSs,if_pos h0] at h;omega
 ·rw [leftSs,if_neg h0] at h ⊢
  refine⟨by omega,?_,rfl⟩
  rcases Int.lt_or_le (leftS e n) 0 with hlt|hge
  ·rw [zDB hlt] at h;omega
  ·exact hge
theorem zJX {k:Int} {nm:ByteArray} {x:List E} {b l:List S} {n:Int} (h:0≤leftS (.mk k nm x b l) n):0≤leftEs x (n -1)∧0≤leftSs b (leftEs x (n -1))∧0≤leftSs l (leftSs b (leftEs x (n -1)))∧leftS (.mk k nm x b l) n=leftSs l (leftSs b (leftEs x (n -1))):=by
 rw [leftS] at h ⊢
 by_cases h4:40<nm.size
 ·rw [if_pos h4] at h;omega
 ·rw [if_neg h4] at h ⊢
  simp only [] at h ⊢
  by_cases a1:0≤leftEs x (n -1)
  ·rw [if_pos a1] at h ⊢
   by_cases a2:0≤leftSs b (leftEs x (n -1))
   ·rw [if_pos a2] at h ⊢
    exact⟨a1,a2,h,rfl⟩
   ·rw [if_neg a2] at h;exact absurd h a2
  ·rw [if_neg a1,if_neg a1] at h;exact absurd h a1
mutual
theorem zTE:∀(s:S) (n:Int),0≤leftS s n→(wS s:Int)≤33*(n -leftS s n)
 | .mk k nm x b l,n,h=>by
   obtain⟨a1,a2,a3,a4⟩:=zJX h
   have b1:=zH7 x (n -1) a1
   have c1:=zDW b _ a2
   have d1:=zDW l _ a3
   rw [a4,wS]
   omega
theorem zDW:∀(l:List S) (n:Int),0≤leftSs l n→(wSs l:Int)≤33*(n -leftSs l n)
 | [],n,h=>by rw [wSs,leftSs];simp
 |e::r,n,h=>by
  obtain⟨a1,a2,a3⟩:=zJW h
  rw [a3] at h ⊢
  have b1:=zTE e n a2
  have c1:=zDW r _ h
  rw [wSs]
  omega
end
structure SmM (N:Nat) (m:M):Prop where
 w:wSs m.body≤33*N
 ps:m.params.length≤N
 sz:∀s∈m.params,s.size≤40
 nm:m.name.size≤40
structure SmC (N:Nat) (c:C):Prop where
 ms:c.methods.length≤N
 fs:c.fields.length≤N
 nm:c.name.size≤40
 sz:∀s∈c.fields,s.size≤40
 all:∀m∈c.methods,SmM N m
theorem zCE {l:List ByteArray} {n:Int} (h:0≤shortL l n):(∀s∈l,s.size≤40)∧shortL l n=n -l.length:=by
 unfold shortL at h ⊢
 by_cases h0:l.any (fun s=>decide (40<s.size))=true
 ·rw [if_pos h0] at h;omega
 ·rw [if_neg h0]
  refine⟨fun s hs=>?_,rfl⟩
  rw [List.any_eq_true] at h0
  rcases Nat.lt_or_ge 40 s.size with h1|h1
  ·exact absurd ⟨s,hs,by simp [h1]⟩ h0
  ·exact h1
theorem zPS {m:M} {n:Int} {N:Nat} (hn:n≤N) (h:0≤leftM m n):SmM N m:=by
 unfold leftM at h
 by_cases h4:40<m.name.size
 ·rw [if_pos h4] at h;omega
 ·rw [if_neg h4] at h
  simp only [] at h
  by_cases a1:0≤shortL m.params (n -1)
  ·rw [if_pos a1] at h
   obtain⟨b1,b2⟩:=zCE a1
   rw [b2] at h a1
   have h5:=zDW m.body _ h
   exact⟨by omega,by omega,b1,by omega⟩
  ·rw [if_neg a1] at h;exact absurd h a1
theorem zHO {m:M} {n:Int} (h1:0≤leftM m n):leftM m n≤n -1:=by
 unfold leftM at h1 ⊢
 split
 ·omega
 ·rename_i h4
  rw [if_neg h4] at h1
  simp only [] at h1 ⊢
  by_cases a1:0≤shortL m.params (n -1)
  ·rw [if_pos a1] at h1 ⊢
   have h5:=zDW m.body _ h1
   have h7:=(zCE a1).2
   omega
  ·rw [if_neg a1] at h1;exact absurd h1 a1
theorem zHN:∀(l:List M) (n:Int) (N:Nat),n≤N→0≤leftMs l n→(l.length:Int)≤n∧∀m∈l,SmM N m
 | [],n,N,hn,h=>by rw [leftMs] at h;exact⟨by simpa using h,fun m hm=>by cases hm⟩
 |m::r,n,N,hn,h=>by
  have h0:0≤n:=by
   rcases Int.lt_or_le n 0 with h0|h0
   ·rw [leftMs,if_pos h0] at h;omega
   ·exact h0
  rw [zGN h0] at h
  have h1:0≤leftM m n:=by
   rcases Int.lt_or_le (leftM m n) 0 with hlt|hge
   ·rw [zNR hlt] at h;omega
   ·exact hge
  have h6:=zHO h1
  obtain⟨b1,b2⟩:=zHN r _ N (by omega) h
  refine⟨by rw [List.length_cons];omega,fun x hx=>?_⟩
  rcases List.mem_cons.1 hx with rfl|hx
  ·exact zPS hn h1
  ·exact b2 x hx
theorem zGL:∀ {l:List M} {n:Int},0≤leftMs l n→0≤n
 | [],n,h=>by rw [leftMs] at h;exact h
 |m::r,n,h=>by
  rcases Int.lt_or_le n 0 with h0|h0
  ·rw [leftMs,if_pos h0] at h;omega
  ·exact h0
theorem zGM:∀(l:List M) (n:Int),leftMs l n≤n∨leftMs l n<0
 | [],n=>by rw [leftMs];omega
 |m::r,n=>by
  by_cases h:0≤leftMs (m::r) n
  ·have h0:=zGL h
   rw [zGN h0] at h ⊢
   have h3:=zGM r (leftM m n)
   have h1:=zGL h
   have h4:=zHO h1
   omega
  ·omega
theorem zPT {c:C} {n:Int} {N:Nat} (hn:n≤N) (h:0≤leftC c n):SmC N c∧leftC c n≤n -1:=by
 unfold leftC at h ⊢
 by_cases h4:40<c.name.size
 ·rw [if_pos h4] at h;omega
 ·rw [if_neg h4] at h ⊢
  have a1:0≤shortL c.fields (n -1):=zGL h
  obtain⟨b1,b2⟩:=zCE a1
  rw [b2] at h a1 ⊢
  obtain⟨c1,c2⟩:=zHN c.methods _ N (by omega) h
  have h9:=zGM c.methods (n -1 -c.fields.length)
  exact⟨⟨by omega,by omega,by omega,b1,c2⟩,by omega⟩
theorem zHR:∀(l:List C) (n:Int) (N:Nat),n≤N→0≤leftCs l n→(l.length:Int)≤n∧∀c∈l,SmC N c
 | [],n,N,hn,h=>by rw [leftCs] at h;exact⟨by simpa using h,fun m hm=>by cases hm⟩
 |c::r,n,N,hn,h=>by
  have h0:0≤n:=by
   rcases Int.lt_or_le n 0 with h0|h0
   ·rw [leftCs,if_pos h0] at h;omega
   ·exact h0
  rw [zLJ h0] at h
  have h1:0≤leftC c n:=by
   rcases Int.lt_or_le (leftC c n) 0 with hlt|hge
   ·rw [zNT hlt] at h;omega
   ·exact hge
  obtain⟨a1,a2⟩:=zPT hn h1
  obtain⟨b1,b2⟩:=zHR r _ N (by omega) h
  refine⟨by rw [List.length_cons];omega,fun x hx=>?_⟩
  rcases List.mem_cons.1 hx with rfl|hx
  ·exact a1
  ·exact b2 x hx
theorem zJ7 {l:List C} {n:Nat} (h:fewP l n=true):l.length≤n∧∀c∈l,SmC n c:=by
 obtain⟨a,b⟩:=zHR l n n (Int.le_refl _) (of_decide_eq_true h)
 exact⟨by omega,b⟩
structure Cm where
 name:ByteArray
 params:Nat
 locals:Nat
 code:List Ins
 names:List ByteArray
structure Cc where
 name:ByteArray
 actor:Bool
 fields:List ByteArray
 methods:List Cm
def cmOf (m:M) (g:G):Cm:=⟨m.name,m.params.length,g.locals,g.code,g.names⟩
def cmsOf (cs:List C) (c:C):List M→Option (List Cm)
 | []=>some []
 |m::r=>(gM cs c m).bind fun g=>(cmsOf cs c r).map (cmOf m g:: ·)
def ccOf (c:C) (ms:List Cm):Cc:=⟨c.name,c.actor,c.fields,ms⟩
def ccsOf (cs:List C):List C→Option (List Cc)
 | []=>some []
 |c::r=>(cmsOf cs c c.methods).bind fun ms=>(ccsOf cs r).map (ccOf c ms:: ·)
theorem zKC {cs:List C} {c:C}:∀ {l:List M} {d:List Cm} {m:M} {g:G},cmsOf cs c l=some d→gM cs c m=some g→cmsOf cs c (l++ [m])=some (d++ [cmOf m g])
 | [],d,m,g,h,hg=>by cases h;rw [List.nil_append,cmsOf,hg,cmsOf];rfl
 |x::r,d,m,g,h,hg=>by
  rw [cmsOf] at h
  rw [List.cons_append,cmsOf]
  cases hx:gM cs c x with
  |none=>rw [hx] at h;cases h
  |some gx=>
   rw [hx] at h
   cases hr:cmsOf cs c r with
   |none=>rw [hr] at h;cases h
   |some dr=>
    rw [hr] at h
    cases h
    rw [zKC hr hg]
    rfl
theorem zH2 {cs:List C} {c:C}:∀ {l:List M} {m:M},m∈l→gM cs c m=none→cmsOf cs c l=none
 | [],m,h,_=>by cases h
 |x::r,m,h,hg=>by
  rw [cmsOf]
  rcases List.mem_cons.1 h with rfl|h
  ·rw [hg];rfl
  ·rw [zH2 h hg]
   cases gM cs c x<;>rfl
theorem zKF {cs:List C}:∀ {l:List C} {d:List Cc} {c:C} {ms:List Cm},ccsOf cs l=some d→cmsOf cs c c.methods=some ms→ccsOf cs (l++ [c])=some (d++ [ccOf c ms])
 | [],d,m,g,h,hg=>by cases h;rw [List.nil_append,ccsOf,hg,ccsOf];rfl
 |x::r,d,m,g,h,hg=>by
  rw [ccsOf] at h
  rw [List.cons_append,ccsOf]
  cases hx:cmsOf cs x x.methods with
  |none=>rw [hx] at h;cases h
  |some gx=>
   rw [hx] at h
   cases hr:ccsOf cs r with
   |none=>rw [hr] at h;cases h
   |some dr=>
    rw [hr] at h
    cases h
    rw [zKF hr hg]
    rfl
theorem zH3 {cs:List C}:∀ {l:List C} {c:C},c∈l→cmsOf cs c c.methods=none→ccsOf cs l=none
 | [],m,h,_=>by cases h
 |x::r,m,h,hg=>by
  rw [ccsOf]
  rcases List.mem_cons.1 h with rfl|h
  ·rw [hg];rfl
  ·rw [zH3 h hg]
   cases cmsOf cs x x.methods<;>rfl
theorem zKB {cs:List C} {c:C}:∀ {l:List M} {d:List Cm},cmsOf cs c l=some d→d.length=l.length∧∀(j:Nat) (m:M),l[j]? =some m→∃g,gM cs c m=some g∧d[j]? =some (cmOf m g)
 | [],d,h=>by cases h;exact⟨rfl,fun j m hj=>by simp at hj⟩
 |x::r,d,h=>by
  rw [cmsOf] at h
  cases hx:gM cs c x with
  |none=>rw [hx] at h;cases h
  |some gx=>
   rw [hx] at h
   cases hr:cmsOf cs c r with
   |none=>rw [hr] at h;cases h
   |some dr=>
    rw [hr] at h
    cases h
    obtain⟨a,b⟩:=zKB hr
    refine⟨by rw [List.length_cons,List.length_cons,a],fun j m hj=>?_⟩
    cases j with
    |zero=>cases hj;exact⟨gx,hx,rfl⟩
    |succ j=>exact b j m (by simpa using hj)
theorem zKE {cs:List C}:∀ {l:List C} {d:List Cc},ccsOf cs l=some d→d.length=l.length∧∀(j:Nat) (c:C),l[j]? =some c→∃ms,cmsOf cs c c.methods=some ms∧d[j]? =some (ccOf c ms)
 | [],d,h=>by cases h;exact⟨rfl,fun j m hj=>by simp at hj⟩
 |x::r,d,h=>by
  rw [ccsOf] at h
  cases hx:cmsOf cs x x.methods with
  |none=>rw [hx] at h;cases h
  |some gx=>
   rw [hx] at h
   cases hr:ccsOf cs r with
   |none=>rw [hr] at h;cases h
   |some dr=>
    rw [hr] at h
    cases h
    obtain⟨a,b⟩:=zKE hr
    refine⟨by rw [List.length_cons,List.length_cons,a],fun j m hj=>?_⟩
    cases j with
    |zero=>cases hj;exact⟨gx,hx,rfl⟩
    |succ j=>exact b j m (by simpa using hj)
end Co
end Go.Proofs.YtcnmfcgmnkncaaaGreatDoor
namespace Go.Proofs.YtcnmfcgmnkncaaaGreatDoor
namespace Cw
open Go.RowKit Go.Maps Pw
def CellsI (w:World) (b o:Nat) (x:Co.Ins):Prop:=
 w.cell? ⟨b,o,none⟩=some (.int .i64 x.1)∧w.cell? ⟨b,o+1,none⟩=some (.int .i64 x.2.1)∧w.cell? ⟨b,o+2,none⟩=some (.int .i64 x.2.2)
def SlI (w:World) (v:Value) (l:List Co.Ins):Prop:=
 ∃p c,v= .slice p l.length c∧l.length≤maxLen∧(l≠ []→l.length≤c∧c≤maxLen)∧∀j x,l[j]? =some x→∃b o,p=some ⟨b,o,none⟩∧b<w.heap.size∧CellsI w b (o+j*3) x
def CellsMm (w:World) (b o:Nat) (m:Co.Cm) (x y:Value):Prop:=
 w.cell? ⟨b,o,none⟩=some (.string m.name)∧w.cell? ⟨b,o+1,none⟩=some (.int .i64 m.params)∧w.cell? ⟨b,o+2,none⟩=some (.int .i64 m.locals)∧w.cell? ⟨b,o+3,none⟩=some x∧w.cell? ⟨b,o+4,none⟩=some y
def SlMm (w:World) (v:Value) (l:List Co.Cm):Prop:=
 ∃p c,v= .slice p l.length c∧l.length≤maxLen∧(l≠ []→l.length≤c∧c≤maxLen)∧∀j m,l[j]? =some m→m.name.size≤maxLen∧∃b o x y,p=some ⟨b,o,none⟩∧b<w.heap.size∧CellsMm w b (o+j*5) m x y∧SlI w x m.code∧SlStr w y m.names
def CellsCc (w:World) (b o:Nat) (m:Co.Cc) (x y:Value):Prop:=
 w.cell? ⟨b,o,none⟩=some (.string m.name)∧w.cell? ⟨b,o+1,none⟩=some (.bool m.actor)∧w.cell? ⟨b,o+2,none⟩=some x∧w.cell? ⟨b,o+3,none⟩=some y
def SlCc (w:World) (v:Value) (l:List Co.Cc):Prop:=
 ∃p c,v= .slice p l.length c∧l.length≤maxLen∧(l≠ []→l.length≤c∧c≤maxLen)∧∀j m,l[j]? =some m→m.name.size≤maxLen∧∃b o x y,p=some ⟨b,o,none⟩∧b<w.heap.size∧CellsCc w b (o+j*4) m x y∧SlStr w x m.fields∧SlMm w y m.methods
section
variable {w w':World} {v:Value}
theorem SlI.inc {l:List Co.Ins} (h:SlI w v l) (hb:Inc w w'):SlI w' v l:=by
 obtain⟨p,c,e,hl,hn,hx⟩:=h
 refine⟨p,c,e,hl,hn,fun j s hj=>?_⟩
 obtain⟨b,o,e2,h1,h2⟩:=hx j s hj
 exact⟨b,o,e2,Nat.lt_of_lt_of_le h1 hb.1,hb.2 _ _ _ h2.1,hb.2 _ _ _ h2.2.1,hb.2 _ _ _ h2.2.2⟩
theorem SlMm.inc {l:List Co.Cm} (h:SlMm w v l) (hb:Inc w w'):SlMm w' v l:=by
 obtain⟨p,c,e,hl,hn,hx⟩:=h
 refine⟨p,c,e,hl,hn,fun j s hj=>?_⟩
 obtain⟨hs,b,o,x,y,e2,h1,h2,h3,h4⟩:=hx j s hj
 exact⟨hs,b,o,x,y,e2,Nat.lt_of_lt_of_le h1 hb.1,⟨hb.2 _ _ _ h2.1,hb.2 _ _ _ h2.2.1,hb.2 _ _ _ h2.2.2.1,hb.2 _ _ _ h2.2.2.2.1,hb.2 _ _ _ h2.2.2.2.2⟩,h3.inc hb,h4.inc hb⟩
theorem SlCc.inc {l:List Co.Cc} (h:SlCc w v l) (hb:Inc w w'):SlCc w' v l:=by
 obtain⟨p,c,e,hl,hn,hx⟩:=h
 refine⟨p,c,e,hl,hn,fun j s hj=>?_⟩
 obtain⟨hs,b,o,x,y,e2,h1,h2,h3,h4⟩:=hx j s hj
 exact⟨hs,b,o,x,y,e2,Nat.lt_of_lt_of_le h1 hb.1,⟨hb.2 _ _ _ h2.1,hb.2 _ _ _ h2.2.1,hb.2 _ _ _ h2.2.2.1,hb.2 _ _ _ h2.2.2.2⟩,h3.inc hb,h4.inc hb⟩
theorem zHB (hb:Below w.heap.size w w'):Inc w w':=⟨hb.size,fun _ _ _ h=>zA hb h⟩
theorem SlI.keep {l:List Co.Ins} (h:SlI w v l) (hb:Below w.heap.size w w'):SlI w' v l:=h.inc (zHB hb)
theorem SlMm.keep {l:List Co.Cm} (h:SlMm w v l) (hb:Below w.heap.size w w'):SlMm w' v l:=h.inc (zHB hb)
theorem SlCc.keep {l:List Co.Cc} (h:SlCc w v l) (hb:Below w.heap.size w w'):SlCc w' v l:=h.inc (zHB hb)
theorem SlI.form {l:List Co.Ins} (h:SlI w v l):∃p c,v= .slice p l.length c∧(l≠ []→l.length≤c∧c≤maxLen):=by obtain⟨p,c,e,_,hn,_⟩:=h;exact⟨p,c,e,hn⟩
theorem SlMm.form {l:List Co.Cm} (h:SlMm w v l):∃p c,v= .slice p l.length c∧(l≠ []→l.length≤c∧c≤maxLen):=by obtain⟨p,c,e,_,hn,_⟩:=h;exact⟨p,c,e,hn⟩
theorem SlCc.form {l:List Co.Cc} (h:SlCc w v l):∃p c,v= .slice p l.length c∧(l≠ []→l.length≤c∧c≤maxLen):=by obtain⟨p,c,e,_,hn,_⟩:=h;exact⟨p,c,e,hn⟩
theorem SlI.len {l:List Co.Ins} (h:SlI w v l):l.length≤maxLen:=by obtain⟨p,c,e,hl,_,_⟩:=h;exact hl
theorem SlMm.len {l:List Co.Cm} (h:SlMm w v l):l.length≤maxLen:=by obtain⟨p,c,e,hl,_,_⟩:=h;exact hl
theorem SlCc.len {l:List Co.Cc} (h:SlCc w v l):l.length≤maxLen:=by obtain⟨p,c,e,hl,_,_⟩:=h;exact hl
theorem SlI.get {p:Option Addr} {n c:Nat} {l:List Co.Ins} (h:SlI w (.slice p n c) l) {j:Nat} {x:Co.Ins} (hj:l[j]? =some x):
 ∃b o,p=some ⟨b,o,none⟩∧b<w.heap.size∧CellsI w b (o+j*3) x:=by
 obtain⟨p',c',e,_,_,hx⟩:=h
 cases e
 exact hx j x hj
theorem SlMm.get {p:Option Addr} {n c:Nat} {l:List Co.Cm} (h:SlMm w (.slice p n c) l) {j:Nat} {m:Co.Cm} (hj:l[j]? =some m):
 ∃b o x y,p=some ⟨b,o,none⟩∧b<w.heap.size∧CellsMm w b (o+j*5) m x y∧m.name.size≤maxLen∧SlI w x m.code∧SlStr w y m.names:=by
 obtain⟨p',c',e,_,_,hx⟩:=h
 cases e
 obtain⟨h0,b,o,x,y,h1,h2,h3,h4,h5⟩:=hx j m hj
 exact⟨b,o,x,y,h1,h2,h3,h0,h4,h5⟩
theorem SlCc.get {p:Option Addr} {n c:Nat} {l:List Co.Cc} (h:SlCc w (.slice p n c) l) {j:Nat} {m:Co.Cc} (hj:l[j]? =some m):
 ∃b o x y,p=some ⟨b,o,none⟩∧b<w.heap.size∧CellsCc w b (o+j*4) m x y∧m.name.size≤maxLen∧SlStr w x m.fields∧SlMm w y m.methods:=by
 obtain⟨p',c',e,_,_,hx⟩:=h
 cases e
 obtain⟨h0,b,o,x,y,h1,h2,h3,h4,h5⟩:=hx j m hj
 exact⟨b,o,x,y,h1,h2,h3,h0,h4,h5⟩
theorem SlI.one {l:List Co.Ins} (h:SlI w v l):v.oneCell'=true:=by obtain⟨p,c,rfl,_⟩:=h;rfl
theorem SlMm.one {l:List Co.Cm} (h:SlMm w v l):v.oneCell'=true:=by obtain⟨p,c,rfl,_⟩:=h;rfl
theorem zTM (w:World) (p:Option Addr) (c:Nat):SlI w (.slice p 0 c) []:=⟨p,c,rfl,Nat.zero_le _,fun h=>absurd rfl h,fun j n hj=>by simp at hj⟩
theorem zRK (w:World) (p:Option Addr) (c:Nat):SlMm w (.slice p 0 c) []:=⟨p,c,rfl,Nat.zero_le _,fun h=>absurd rfl h,fun j n hj=>by simp at hj⟩
theorem zRM (w:World) (p:Option Addr) (c:Nat):SlCc w (.slice p 0 c) []:=⟨p,c,rfl,Nat.zero_le _,fun h=>absurd rfl h,fun j n hj=>by simp at hj⟩
theorem zTL {base:Nat} {l:List Co.Ins} (h:w.ownsRow base 65 3 v l.length (flatV iCells l)):SlI w v l:=by
 rcases zB3 zDC h with ⟨rfl,rfl⟩|⟨g,cap,rfl,hg,hn,hm,hc⟩
 ·exact zTM _ _ _
 ·refine⟨some ⟨g,0,none⟩,cap,rfl,by omega,fun _=>⟨hn,hm⟩,fun j m hj=>?_⟩
  have c:=hc j m hj
  exact⟨g,0,rfl,hg,by rw [Nat.zero_add];exact⟨c 0 _ rfl,c 1 _ rfl,c 2 _ rfl⟩⟩
abbrev MmT:=Co.Cm × Value × Value
abbrev CcT:=Co.Cc × Value × Value
def mmCells (x:MmT):List Value:= [.string x.1.name,.int .i64 x.1.params,.int .i64 x.1.locals,x.2.1,x.2.2]
def ccCells (x:CcT):List Value:= [.string x.1.name,.bool x.1.actor,x.2.1,x.2.2]
theorem zGJ (x:MmT):(mmCells x).length=5:=rfl
theorem zG9 (x:CcT):(ccCells x).length=4:=rfl
def ReadMm (w:World) (x:MmT):Prop:=x.1.name.size≤maxLen∧SlI w x.2.1 x.1.code∧SlStr w x.2.2 x.1.names
def ReadCc (w:World) (x:CcT):Prop:=x.1.name.size≤maxLen∧SlStr w x.2.1 x.1.fields∧SlMm w x.2.2 x.1.methods
theorem zGD:Mono ReadMm:=fun _ _ _ hi h=>⟨h.1,h.2.1.inc hi,h.2.2.inc hi⟩
theorem zK7:Mono ReadCc:=fun _ _ _ hi h=>⟨h.1,h.2.1.inc hi,h.2.2.inc hi⟩
theorem zLH {x:MmT} (h:ReadMm w x):∀u∈mmCells x,u.oneCell'=true:=by
 intro u hu
 simp only [mmCells,List.mem_cons,List.not_mem_nil,or_false] at hu
 rcases hu with rfl|rfl|rfl|rfl|rfl
 ·rfl
 ·rfl
 ·rfl
 ·exact SlI.one h.2.1
 ·exact SlStr.one h.2.2
theorem zLU {x:CcT} (h:ReadCc w x):∀u∈ccCells x,u.oneCell'=true:=by
 intro u hu
 simp only [ccCells,List.mem_cons,List.not_mem_nil,or_false] at hu
 rcases hu with rfl|rfl|rfl|rfl
 ·rfl
 ·rfl
 ·exact SlStr.one h.2.1
 ·exact SlMm.one h.2.2
theorem zRJ {base:Nat} {l:List MmT} (h:w.ownsRow base 59 5 v l.length (flatV mmCells l)) (hx:∀x∈l,ReadMm w x):SlMm w v (l.map Prod.fst):=by
 rcases zB3 zGJ h with ⟨rfl,rfl⟩|⟨g,cap,rfl,hg,hn,hm,hc⟩
 ·exact zRK _ _ _
 ·refine⟨some ⟨g,0,none⟩,cap,by rw [List.length_map],by rw [List.length_map];omega,fun _=>by rw [List.length_map];exact⟨hn,hm⟩,fun j m hj=>?_⟩
  rw [List.getElem?_map,Option.map_eq_some_iff] at hj
  obtain⟨a,ha,rfl⟩:=hj
  obtain⟨h1,h2,h3⟩:=hx a (List.mem_of_getElem? ha)
  have c:=hc j a ha
  exact⟨h1,g,0,a.2.1,a.2.2,rfl,hg,by rw [Nat.zero_add];exact⟨c 0 _ rfl,c 1 _ rfl,c 2 _ rfl,c 3 _ rfl,c 4 _ rfl⟩,h2,h3⟩
theorem zRL {base:Nat} {l:List CcT} (h:w.ownsRow base 52 4 v l.length (flatV ccCells l)) (hx:∀x∈l,ReadCc w x):SlCc w v (l.map Prod.fst):=by
 rcases zB3 zG9 h with ⟨rfl,rfl⟩|⟨g,cap,rfl,hg,hn,hm,hc⟩
 ·exact zRM _ _ _
 ·refine⟨some ⟨g,0,none⟩,cap,by rw [List.length_map],by rw [List.length_map];omega,fun _=>by rw [List.length_map];exact⟨hn,hm⟩,fun j m hj=>?_⟩
  rw [List.getElem?_map,Option.map_eq_some_iff] at hj
  obtain⟨a,ha,rfl⟩:=hj
  obtain⟨h1,h2,h3⟩:=hx a (List.mem_of_getElem? ha)
  have c:=hc j a ha
  exact⟨h1,g,0,a.2.1,a.2.2,rfl,hg,by rw [Nat.zero_add];exact⟨c 0 _ rfl,c 1 _ rfl,c 2 _ rfl,c 3 _ rfl⟩,h2,h3⟩
end
theorem cmInfo:(Tryz.prog.info? 59).map (fun i=>(i.zero,i.size,i.bytes))=some (some (.agg #[.string ⟨#[]⟩,.int .i64 0,.int .i64 0,.slice none 0 0,.slice none 0 0]),5,80):=by kernel_rfl
theorem ccInfo:(Tryz.prog.info? 52).map (fun i=>(i.zero,i.size,i.bytes))=some (some (.agg #[.string ⟨#[]⟩,.bool false,.slice none 0 0,.slice none 0 0]),4,72):=by kernel_rfl
end Cw
end Go.Proofs.YtcnmfcgmnkncaaaGreatDoor
namespace Go.Proofs.YtcnmfcgmnkncaaaGreatDoor
namespace Cw
open Go.RowKit Go.Maps Pw
theorem zTA {B0 gb:Nat} {cs:List Tr.C} {cl:Tr.C} {pv fv mv:Value}:∀d:Nat,BC B0 gb cs cl pv fv mv d
 |0=>zM3 (d:=0) (fun s _ _ _ _ _ _ _ _ _ hd=>by
  exfalso
  cases s
  rw [Tr.S.deep] at hd
  omega)
 |d+1=>zM3 (d:=d+1) (zTJ (zTA d))
def RN (a:Value) (l:List ByteArray):World→Prop:=fun W=>SlStr W a l
theorem rn_mn {a:Value} {l:List ByteArray}:Mn (RN a l):=fun _ _ hi h=>SlStr.inc h hi
theorem My.gen {w W:World} {bs:List Bk} {os:List (World→Prop)} {cs:List Tr.C} {cl:Tr.C} {pv fv mv:Value} {gb L:Nat} {t:TypeId} (ht:t=104)
 (h:My w ((gb,#[pv,.string cl.name,.bool cl.actor,fv,mv,.slice none 0 0,.slice none 0 0,.slice none 0 0,.int .i64 L,.int .i64 0,.int .i64 0,.bool false],t)::bs) [] W)
 (hp:SlC w pv cs) (hf:SlStr w fv cl.fields) (ro:∀r∈os,Mn r∧r w):
 Mg w.heap.size gb cs cl pv fv mv w [] ⟨[],[],[],L,0,0,false⟩ (.slice none 0 0) (.slice none 0 0) (.slice none 0 0) bs os W:=by
 subst ht
 have hb:=My.fin h
 have hlt:=h.lt 0 rfl
 have hnd:=h.nd
 rw [List.map_cons,List.nodup_cons] at hnd
 have hin:∀l:List Nat,(∀q∈l,w.heap.size≤q)→Inc w (hide (upL 0 l) W):=fun l hl=>⟨by rw [z6];exact hb.size,fun b o v hv=>by
  have hbl:=zZ hv
  rw [zAO (zBX (Nat.zero_le _) (fun hm=>by have:=hl b hm;omega))]
  exact zA hb hv⟩
 have hlo:Inc w (loW w.heap.size W):=⟨by unfold loW;rw [z6];exact hb.size,fun b o v hv=>by
  have hbl:=zZ hv
  unfold loW
  rw [zAO (decide_eq_false (by omega))]
  exact zA hb hv⟩
 have hnil:∀(e:TypeId) (k:Nat),W.ownsRow w.heap.size e k (.slice none 0 0) 0 []:=fun e k=>⟨by simp,.inl ⟨rfl,rfl⟩⟩
 have how:∀b∈owl gb (.slice none 0 0) (.slice none 0 0) (.slice none 0 0),b=gb:=fun b hm=>by
  rcases zQ.1 hm with rfl|hm|hm|hm
  ·rfl
  ·cases hm
  ·cases hm
  ·cases hm
 refine⟨⟨h.b 0 rfl,hnil _ _,hnil _ _,hnil _ _,?_,hlt.1,fun s hs=>(by cases hs),fun s hs=>(by cases hs),hp.inc hlo,hf.inc hlo⟩,fun hs hk hq=>hq.keep hs hk,Nat.le_refl _,Nat.zero_le _,?_,?_,?_,hnd.2,?_⟩
 ·rw [zA3]
  exact⟨⟨fun e=>(by cases e),fun e=>(by cases e),fun e=>(by cases e)⟩,fun q e=>(by cases e),fun q e=>(by cases e)⟩
 ·exact(Gr.below hb []).wide (fun b hm=> .inr (by rw [how b hm];exact hlt.1))
 ·intro b hm
  rw [how b hm]
  exact⟨hlt.2,hlt.1⟩
 ·intro x hx
  refine⟨(h.bl x (List.mem_cons_of_mem _ hx)).1,(h.bl x (List.mem_cons_of_mem _ hx)).2.1,fun hm=>?_⟩
  have e:=how _ hm
  exact hnd.1 (List.mem_map.2 ⟨x,hx,e⟩)
 ·intro r hr
  refine⟨(ro r hr).1,(ro r hr).1 _ _ (hin _ (fun q hq=>?_)) (ro r hr).2⟩
  rcases List.mem_append.1 hq with hq|hq
  ·rw [how q hq]
   exact hlt.1
  ·exact(h.lts (q:=q) (by rw [List.map_cons];exact List.mem_cons_of_mem _ hq)).1
def set5 (w:World) (b:Nat) (x0 x1 x2 x3 x4:Value):World:=(((((w.setCell ⟨b,0,none⟩ x0).setCell ⟨b,1,none⟩ x1).setCell ⟨b,2,none⟩ x2).setCell ⟨b,3,none⟩ x3).setCell ⟨b,4,none⟩ x4)
theorem zRP {w:World} {b:Nat} {y0 y1 y2 y3 y4:Value} {t:TypeId} (x0 x1 x2 x3 x4:Value) (h:w.heap[b]? =some (.cells #[y0,y1,y2,y3,y4] t (0,0))):(set5 w b x0 x1 x2 x3 x4).heap[b]? =some (.cells #[x0,x1,x2,x3,x4] t (0,0)):=
 heap_set (j:=4) x4 (heap_set (j:=3) x3 (heap_set (j:=2) x2 (heap_set (j:=1) x1 (heap_set (j:=0) x0 h))))
theorem zEQ (w:World) (b:Nat) (x0 x1 x2 x3 x4:Value):w.grownBy (set5 w b x0 x1 x2 x3 x4) (some b):=
 zL (zL (zL (zL (zL (zBE _ _) (zH _ b 0 x0)) (zH _ b 1 x1)) (zH _ b 2 x2)) (zH _ b 3 x3)) (zH _ b 4 x4)
theorem zAH {P:Program} {fn:Func} {p u:Tmp} {ty:TypeId} (h:fn.results= #[.cell p ty,.tmp u]) (tmps:Array Value) (w:World) (g:Nat) (t:TypeId) (cs:Array Value) (fr:Nat × Nat) (d:TypeDesc)
 (hp:tmps.getD p undef= .pointer (some ⟨g,0,none⟩)) (hg:w.heap[g]? =some (.cells cs t fr))
 (hu:P.underlying ty=some d) (hd:(match d with| .struct _| .array _ _=>true|_=>false)=true) (hi:(P.info? ty).map (·.size)=some cs.size):
 (results fn tmps).run P w= .ok (.tuple #[.agg cs,tmps.getD u undef]) w:=by
 rw [results_cell_tmp h,hp]
 simp [asAddr,Result.andThen,run_loadVar_row w g t ty cs fr d hg hu hd hi]
theorem Mz.retM {B0 V:Nat} {w W:World} {o0 ow:List Nat} {Q:World→Prop} {bs:List Bk} {os:List (World→Prop)} {R:Nat} {x0 x1 x2 x3 x4 y0 y1 y2 y3 y4 eu:Value} (h:Mz B0 V w o0 Q ow bs os W) (i:Nat) (hi:bs[i]? =some (R,#[y0,y1,y2,y3,y4],59)) {fn:Func} {q u:Tmp} {A:Act} (hr:fn.results= #[.cell q 59,.tmp u]) (hq:A.tmps.getD q undef= .pointer (some ⟨R,0,none⟩)) (hu:A.tmps.getD u undef=eu) (hd:A.defers= []) {Post:Ending→World→Prop}
 (hp:∀W',Mz B0 V w o0 Q ow (bs.set i (R,#[x0,x1,x2,x3,x4],59)) os W'→Post (.returned (.tuple #[.agg #[x0,x1,x2,x3,x4],eu])) W'):
 bodyPost Tryz.prog fn Post .ret A (set5 W R x0 x1 x2 x3 x4):=by
 have h2:=h.set i hi (zEQ W R x0 x1 x2 x3 x4) (zRP _ _ _ _ _ (h.b i hi))
 have hil:i<bs.length:=(List.getElem?_eq_some_iff.1 hi).1
 have hS:=h2.b i (X:=R) (by rw [List.getElem?_set,if_pos rfl,if_pos hil])
 subst hu
 exact bodyPost_ret (v:= .tuple #[.agg #[x0,x1,x2,x3,x4],A.tmps.getD u undef]) (zAH hr _ _ R _ _ _ _ hq hS Tryz.underlying59 rfl (by kernel_rfl)) hd (hp _ h2)
def MP (cs:List Tr.C) (cl:Tr.C) (m:Tr.M) (w:World) (e:Ending) (w':World):Prop:=
 Below w.heap.size w w'∧match Co.gM cs cl m with
  |none=>e= .returned (.tuple #[.agg #[.string ⟨#[]⟩,.int .i64 0,.int .i64 0,.slice none 0 0,.slice none 0 0],.int .i64 8])
  |some g=>∃cv nv,e= .returned (.tuple #[.agg #[.string m.name,.int .i64 m.params.length,.int .i64 g.locals,cv,nv],.int .i64 0])∧SlI (hide (upL w.heap.size []) w') cv g.code∧SlStr (hide (upL w.heap.size []) w') nv g.names
theorem zGI {cs:List Tr.C} {cl:Tr.C} {m:Tr.M} {w w':World} (h:Co.gM cs cl m=none) (hb:Below w.heap.size w w'):MP cs cl m w (.returned (.tuple #[.agg #[.string ⟨#[]⟩,.int .i64 0,.int .i64 0,.slice none 0 0,.slice none 0 0],.int .i64 8])) w':=by
 unfold MP
 rw [h]
 exact⟨hb,rfl⟩
theorem zPP {cs:List Tr.C} {cl:Tr.C} {m:Tr.M} {w w':World} {g:Co.G} {cv nv:Value} {N:Nat} (h:Co.gM cs cl m=some g) (hN:m.params.length=N) (hb:Below w.heap.size w w') (hc:SlI (hide (upL w.heap.size []) w') cv g.code) (hn:SlStr (hide (upL w.heap.size []) w') nv g.names):
 MP cs cl m w (.returned (.tuple #[.agg #[.string m.name,.int .i64 N,.int .i64 g.locals,cv,nv],.int .i64 0])) w':=by
 unfold MP
 rw [h,←hN]
 exact⟨hb,cv,nv,rfl,hc,hn⟩
theorem Mg.rows {gb:Nat} {cs:List Tr.C} {cl:Tr.C} {pv fv mv:Value} {g:Co.G} {cv nv vv:Value} {w W:World} {bs:List Bk} {os:List (World→Prop)} (h:Mg w.heap.size gb cs cl pv fv mv w [] g cv nv vv bs os W):
 Below w.heap.size w W∧SlI (hide (upL w.heap.size []) W) cv g.code∧SlStr (hide (upL w.heap.size []) W) nv g.names:=
 ⟨h.gr.fresh,zTL (zCI h.q.code (fun k hk=>zBX (zR h.q.code hk).1 (by simp))),zD4 (zCI h.q.names (fun k hk=>zBX (zR h.q.names hk).1 (by simp))) h.q.ns⟩
theorem zIK {cs:List Tr.C} {c:Tr.C} {m:Tr.M} {g:Co.G} (hg:Co.emit (Co.gB cs c.fields ⟨[],[],Co.vars0 m.params,m.params.length,0,0,false⟩ m.body) 25 0 0 0 0=g) (h:g.large=true∨4000<g.code.length∨1024<g.names.length∨64<g.most):Co.gM cs c m=none:=by
 unfold Co.gM
 dsimp only
 rw [hg,if_pos h]
theorem zT2 {cs:List Tr.C} {c:Tr.C} {m:Tr.M} {g:Co.G} (hg:Co.emit (Co.gB cs c.fields ⟨[],[],Co.vars0 m.params,m.params.length,0,0,false⟩ m.body) 25 0 0 0 0=g) (h:¬(g.large=true∨4000<g.code.length∨1024<g.names.length∨64<g.most)):Co.gM cs c m=some g:=by
 unfold Co.gM
 dsimp only
 rw [hg,if_neg h]
theorem zI2 (l:List ByteArray):(Co.vars0 l).length=l.length:=by unfold Co.vars0;exact List.length_zipIdx
theorem zM9 {l:List ByteArray} {j:Nat} {s:ByteArray} (h:l[j]? =some s):Co.vars0 (l.take (j+1))=Co.vars0 (l.take j)++ [(s,j)]:=by
 have hlt:=(List.getElem?_eq_some_iff.1 h).1
 unfold Co.vars0
 rw [List.take_add_one,h,List.zipIdx_append]
 simp [Nat.min_eq_left (Nat.le_of_lt hlt)]
theorem zM8 {l:List ByteArray}:∀x∈Co.vars0 l,x.2≤l.length:=by
 intro x hx
 unfold Co.vars0 at hx
 have:=List.mem_zipIdx hx
 omega
set_option maxRecDepth 100000 in
set_option maxHeartbeats 40000000 in
theorem method_any {cs:List Tr.C} {cl:Tr.C} {m:Tr.M} {pv fv mv xv yv:Value} {w:World} (hp:SlC w pv cs) (hf:SlStr w fv cl.fields) (hm:∃p N c,mv= .slice p N c) (hx:SlStr w xv m.params) (hy:SlS w yv m.body) (hv:Tr.validSs m.body=true) (hnm:m.name.size≤maxLen) (hbd:m.params.length+Co.wSs m.body+9≤900000):
 Calls Tryz.prog 35 #[.agg #[pv],.agg #[.string cl.name,.bool cl.actor,fv,mv],.agg #[.string m.name,xv,yv]] w (MP cs cl m w):=by
 have hp0:=hp
 have hf0:=hf
 have hx0:=hx
 have hy0:=hy
 obtain⟨pp,cp,rfl,_⟩:=hp.form
 obtain⟨pf,cf,rfl,_,_⟩:=hf
 obtain⟨px,cx,rfl,hxl,_⟩:=hx
 obtain⟨py,cy,rfl,_⟩:=hy.form
 obtain⟨pm,MN,cm,rfl⟩:=hm
 obtain⟨CN,hCN⟩:∃q,cs.length=q:=⟨_,rfl⟩
 obtain⟨FN,hFN⟩:∃q,cl.fields.length=q:=⟨_,rfl⟩
 obtain⟨PN,hPN⟩:∃q,m.params.length=q:=⟨_,rfl⟩
 obtain⟨YN,hYN⟩:∃q,m.body.length=q:=⟨_,rfl⟩
 rw [hCN] at hp0 ⊢
 rw [hFN] at hf0 ⊢
 rw [hPN] at hx0 hbd ⊢
 rw [hYN] at hy0 ⊢
 have HP:=zh hp0
 have HF:=zh hf0
 have HXS:=zh hx0
 have HY:=zh hy0
 have HPN:=zh hPN
 have HV:=zh hv
 have HT:=zh hbd
 have HNM:=zh hnm
 have hpn:PN≤900000:=by omega
 have C0:=zh (My.start w)
 clear hp hy hp0 hf0 hx0 hy0 hCN hFN hPN hYN hv hbd hnm hxl
 obtain⟨P,w1,HX1,HW1,hx1,C1⟩:=C0.out.boxE #[.slice pp CN cp] 24
 obtain⟨C,w2,HX2,HW2,hx2,C2⟩:=C1.out.boxE #[.string cl.name,.bool cl.actor,.slice pf FN cf,.slice pm MN cm] 55
 have HY2:Hid (C=P+1):=zh (by rw [HX2.out,HW1.out,HX1.out];simp)
 obtain⟨M,w3,HX3,HW3,hx3,C3⟩:=C2.out.boxE #[.string m.name,.slice px PN cx,.slice py YN cy] 62
 have HY3:Hid (M=C+1):=zh (by rw [HX3.out,HW2.out,HX2.out];simp)
 obtain⟨R,w4,HX4,HW4,hx4,C4⟩:=C3.out.boxE #[.string ⟨#[]⟩,.int .i64 0,.int .i64 0,.slice none 0 0,.slice none 0 0] 59
 have HY4:Hid (R=M+1):=zh (by rw [HX4.out,HW3.out,HX3.out];simp)
 go_enter Tryz.func35,Tryz.ntmps35
 go_upto_region 1 with fail
 rw [←HX1.out,←HW1.out,←HY2.out,←HW2.out,←HY3.out,←HW3.out,←HY4.out,←HW4.out]
 clear HX1 HW1 C0 HY2 HX2 HW2 C1 HY3 HX3 HW3 C2 HY4 HX4 HW4 C3
 have q3:=cells1 (C4.out.b 3 rfl)
 have q2:=cells4 (C4.out.b 2 rfl)
 have q1:=cells3 (C4.out.b 1 rfl)
 obtain⟨gb,w5,HX,HW,hx5,C5⟩:=C4.out.boxE #[.slice pp CN cp,.string cl.name,.bool cl.actor,.slice pf FN cf,.slice pm MN cm,.slice none 0 0,.slice none 0 0,.slice none 0 0,.int .i64 PN,.int .i64 0,.int .i64 0,.bool false] 104
 go_upto_region 2 with fail
 rw [←HX.out,←HW.out]
 clear HX HW C4 q3 q2 q1
 have CG:=zh (My.gen (os:= [RN (.slice px PN cx) m.params,RS (.slice py YN cy) m.body]) rfl C5.out HP.out HF.out (fun r hr=>by
  rcases List.mem_cons.1 hr with rfl|hr
  ·exact⟨rn_mn,HXS.out⟩
  rw [List.mem_singleton.1 hr]
  exact⟨rs_mn,HY.out⟩))
 clear C5
 have q1:=cells3 (CG.out.b 1 rfl)
 go_wp2_with fail
 clear q1
 go_loopg [21] PN (fun gg s21 wr=>∃j:Nat,s21= .int .i64 j∧j≤PN∧gg=PN -j∧∃vv',Hid (Mg w.heap.size gb cs cl (.slice pp CN cp) (.slice pf FN cf) (.slice pm MN cm) w [] ⟨[],[],(Co.vars0 (m.params.take j)),PN,0,0,false⟩ (.slice none 0 0) (.slice none 0 0) vv' [(R,#[.string ⟨#[]⟩,.int .i64 0,.int .i64 0,.slice none 0 0,.slice none 0 0],59),(M,#[.string m.name,.slice px PN cx,.slice py YN cy],62),(C,#[.string cl.name,.bool cl.actor,.slice pf FN cf,.slice pm MN cm],55),(P,#[.slice pp CN cp],24)] [RN (.slice px PN cx) m.params,RS (.slice py YN cy) m.body] wr))
 case atStart=>exact ⟨0,rfl,Nat.zero_le _,rfl,.slice none 0 0,zh (by rw [List.take_zero];exact CG.out)⟩
 case round=>
  clear CG
  obtain⟨j,rfl,hj,rfl,vv',CR⟩:=hrel
  by_cases hlt:j<PN
  ·obtain⟨x,hx⟩:∃x,m.params[j]? =some x:=⟨_,List.getElem?_eq_getElem (by rw [HPN.out];exact hlt)⟩
   obtain⟨pq,cq,e9,_,_,hx9⟩:=CR.out.rd 0 rfl
   injection e9 with e9a e9b e9c
   subst e9a
   subst e9c
   clear e9b
   obtain⟨hxs,b,oo,hp9,hblt,hxc⟩:=hx9 j x hx
   subst hp9
   have HSZ:=zh hxs
   have HNX:Hid (Co.vars0 (m.params.take (j+1))=Co.vars0 (m.params.take j)++ [(x,j)]):=zh (zM9 hx)
   obtain⟨vl,hvl⟩:∃q,Co.vars0 (m.params.take j)=q:=⟨_,rfl⟩
   have hvn:vl.length=j:=by rw [←hvl,zI2,List.length_take,HPN.out];omega
   have HVN:=zh hvn
   rw [hvl] at CR HNX
   clear hx hx9 hxs hvl hvn
   have b0j:(0:Int)≤(j:Int):=by omega
   have b3j:(j:Int)<(PN:Int):=by omega
   obtain⟨i0,hi0,hz0,hz1,hz2⟩:=info_parts varInfo
   obtain⟨G,wg,HG,HWG,hxg,CH⟩:=CR.out.boxE #[.string x,.int .i64 j] 106
   have gl:=lt_of_block CH.out.q.blk
   have g7:=gcell CH.out.q (j:=7) (u:=vv') rfl
   have gf7:=gfree CH.out.q 7
   have g70:=gcell CR.out.q (j:=7) (u:=vv') rfl
   have gl0:=lt_of_block CR.out.q.blk
   go_wp2_with (at_builtin;rw [←HG.out,←HWG.out];refine zCB zBJ rfl _ _ 102 rfl i0 (.agg #[.string ⟨#[]⟩,.int .i64 0]) 24 Tryz.underlying102 hi0 hz0 hz1 hz2 rfl (by decide) rfl CH.out.q.vars G #[.string x,.int .i64 j] (x,j) rfl (CH.out.b 0 rfl) rfl (zEN _) (by have:=HVN.out;unfold maxLen;show vl.length+1≤_;omega) (by have:=HVN.out;show(vl.length+1)*24≤_;omega) (Nat.le_trans CH.out.hB CH.out.le) ?_;intro v9 wa hr9 hg9 hf9;obtain⟨h1,h2⟩:=CH.out.q.addVar hr9 hg9 hf9 HSZ.out;have CA:=zh (Mg.move CH.out h1 h2).tl;obtain⟨pc,cc,hv9⟩:=own_form hr9;have hb9:=gr_at hg9 CH.out.q.blk (fun e=>(zA3.1 CH.out.q.nd).1.2.2 e.symm);have gla:=lt_of_block hb9;have ga7:=zB hb9 (j:=7) (u:=vv') rfl;have gaf7:=zI hb9 7;subst hv9;clear h1 h2 hr9 hg9 hf9 hb9 CH gl g7 gf7 g70 gl0 hxc hblt)
   go_roundg (PN -(j+1))
   case measure=>omega
   case rel=>exact ⟨j+1,by go_num,by omega,rfl,_,zh (by rw [HNX.out];have h9:=CA.out;rw [show (vl++ [(x,j)]).length=vl.length+1 by simp] at h9;exact h9)⟩
  ·obtain rfl:PN=j:=by omega
   rw [List.take_of_length_le (by rw [HPN.out];exact Nat.le_refl _)] at CR
   clear hj hlt
   have HBD:Hid (Co.Bd PN ⟨[],[],(Co.vars0 m.params),PN,0,0,false⟩∧PN≤900000):=zh ⟨⟨Nat.zero_le _,Nat.zero_le _,by show(Co.vars0 m.params).length≤_;rw [zI2,HPN.out];exact Nat.le_refl _,fun y hy=>by rw [←HPN.out];exact zM8 y hy,Nat.le_refl _,⟨by show -((_:Nat):Int)≤(0:Int);omega,by show(0:Int)≤((_:Nat):Int);omega⟩,⟨by show -((_:Nat):Int)≤(0:Int);omega,by show(0:Int)≤((_:Nat):Int);omega⟩⟩,hpn⟩
   have q1:=cells3 (CR.out.b 1 rfl)
   go_wp2_with fail
   clear q1
   refine(zTA (Tr.S.deep.deeps m.body) m.body _ _ _ _ wr (.slice py YN cy) _ (Nat.le_refl _) HV.out CR.out.q (Nat.le_trans CR.out.hB CR.out.le) ⟨HBD.out.1,by have:=HT.out;omega⟩ (Mg.sightS CR.out 1 rfl)).mono ?_
   rintro e w7 hp7
   obtain⟨rfl,cv7,nv7,vv7,C7⟩:=Mg.done CR.out hp7
   clear hp7 CR
   have HB8:Hid (Co.Bd (PN+Co.wSs m.body) (Co.gB cs cl.fields ⟨[],[],(Co.vars0 m.params),PN,0,0,false⟩ m.body)∧PN+Co.wSs m.body≤900000):=zh ⟨(Co.zFC cs cl.fields _ _ m.body HBD.out.1).shut (HBD.out.1.mono (by omega)),by have h9:=HT.out;omega⟩
   clear HBD
   go_wp2_with fail
   refine(zW C7.out.q (Nat.le_trans C7.out.hB C7.out.le) HB8.out (25) (0) (0) (0) (0) ⟨by omega,by omega⟩ ⟨by omega,by omega⟩).mono ?_
   rintro e w9 hp9
   obtain⟨rfl,cv9,nv9,vv9,C9⟩:=Mg.done C7.out hp9
   clear hp9 C7
   have HB10:Hid (Co.Bd (PN+Co.wSs m.body+1+1) (Co.emit (Co.gB cs cl.fields ⟨[],[],(Co.vars0 m.params),PN,0,0,false⟩ m.body) (25) (0) (0) (0) (0))∧PN+Co.wSs m.body+1+1≤900000):=zh ⟨HB8.out.1.em (m:=1) ⟨by omega,by omega⟩ ⟨by omega,by omega⟩,by have h9:=HT.out;omega⟩
   clear HB8
   obtain⟨GG,hGG⟩:∃q,Co.emit (Co.gB cs cl.fields ⟨[],[],(Co.vars0 m.params),PN,0,0,false⟩ m.body) (25) (0) (0) (0) (0)=q:=⟨_,rfl⟩
   rw [hGG] at C9 HB10
   have hgg:=hGG
   have HGG:Hid (Co.emit (Co.gB cs cl.fields ⟨[],[],Co.vars0 m.params,m.params.length,0,0,false⟩ m.body) 25 0 0 0 0=GG):=zh (by rw [HPN.out];exact hgg)
   clear hGG hgg
   obtain⟨pcv,ccv,hcv⟩:=own_form C9.out.q.code
   obtain⟨pnv,cnv,hnv⟩:=own_form C9.out.q.names
   subst hcv
   subst hnv
   obtain⟨CL,hCL⟩:∃q,GG.code.length=q:=⟨_,rfl⟩
   obtain⟨NL,hNL⟩:∃q,GG.names.length=q:=⟨_,rfl⟩
   obtain⟨MO,hMO⟩:∃q,GG.most=q:=⟨_,rfl⟩
   obtain⟨LO,hLO⟩:∃q,GG.locals=q:=⟨_,rfl⟩
   have gl:=lt_of_block C9.out.q.blk
   have g5:=gcell C9.out.q (j:=5) rfl
   have g6:=gcell C9.out.q (j:=6) rfl
   have g8:=gcell C9.out.q (j:=8) rfl
   have g10:=gcell C9.out.q (j:=10) rfl
   have g11:=gcell C9.out.q (j:=11) rfl
   rw [hCL] at g5
   rw [hNL] at g6
   rw [hLO] at g8
   rw [hMO] at g10
   have HCL:=zh hCL
   have HNL:=zh hNL
   have HMO:=zh hMO
   have HLO:=zh hLO
   clear hCL hNL hMO hLO
   cases hlg:GG.large
   ·rw [hlg] at g11
    by_cases h4:(4000:Int)<(CL:Int)
    ·have HN:Hid (Co.gM cs cl m=none):=zh (zIK HGG.out (.inr (.inl (by rw [HCL.out];omega))))
     have q0:=cells5 (C9.out.b 0 rfl)
     go_wp2_with fail
     refine Mz.retM C9.out 0 rfl Tryz.results35 rfl rfl rfl (fun W9 h9=>zGI HN.out h9.gr.fresh)
    ·by_cases h5:(1024:Int)<(NL:Int)
     ·have HN:Hid (Co.gM cs cl m=none):=zh (zIK HGG.out (.inr (.inr (.inl (by rw [HNL.out];omega)))))
      have q0:=cells5 (C9.out.b 0 rfl)
      go_wp2_with fail
      refine Mz.retM C9.out 0 rfl Tryz.results35 rfl rfl rfl (fun W9 h9=>zGI HN.out h9.gr.fresh)
     ·by_cases h6:(64:Int)<MO
      ·have HN:Hid (Co.gM cs cl m=none):=zh (zIK HGG.out (.inr (.inr (.inr (by rw [HMO.out];exact h6)))))
       have q0:=cells5 (C9.out.b 0 rfl)
       go_wp2_with fail
       refine Mz.retM C9.out 0 rfl Tryz.results35 rfl rfl rfl (fun W9 h9=>zGI HN.out h9.gr.fresh)
      ·have HN:Hid (Co.gM cs cl m=some GG):=zh (zT2 HGG.out (by rw [hlg,HCL.out,HNL.out,HMO.out];rintro (h|h|h|h)<;>first|omega|cases h))
       go_upto_region 11 with fail
       clear hlg h4 h5 h6
       obtain⟨wd,HWD,CD⟩:=C9.out.drewE
       have d8:=gcell CD.out.q (j:=8) rfl
       have d5:=gcell CD.out.q (j:=5) rfl
       have d6:=gcell CD.out.q (j:=6) rfl
       rw [HLO.out] at d8
       rw [HCL.out] at d5
       rw [HNL.out] at d6
       have HSH:Hid (wd.cell? ⟨M,0,none⟩=some (.string m.name)∧wd.cell? ⟨M,1,none⟩=some (.slice px PN cx)∧wd.cell? ⟨gb,8,none⟩=some (.int .i64 LO)∧wd.cell? ⟨gb,5,none⟩=some (.slice pcv CL ccv)∧wd.cell? ⟨gb,6,none⟩=some (.slice pnv NL cnv)):=zh ⟨zB (CD.out.b 1 rfl) (j:=0) rfl,zB (CD.out.b 1 rfl) (j:=1) rfl,d8,d5,d6⟩
       have HNE:Hid (M≠R∧gb≠R):=zh ⟨fun e=>by have h9:=CD.out.nd;simp [e] at h9,fun e=>(CD.out.lts (q:=R) (by simp)).2.2 (zQ.2 (.inl e.symm))⟩
       clear d8 d5 d6 g5 g6 g8 g10 g11 gl
       refine wp_region_held_drew (S:=fun W=>W.cell? ⟨M,0,none⟩=some (.string m.name)∧W.cell? ⟨M,1,none⟩=some (.slice px PN cx)∧W.cell? ⟨gb,8,none⟩=some (.int .i64 LO)∧W.cell? ⟨gb,5,none⟩=some (.slice pcv CL ccv)∧W.cell? ⟨gb,6,none⟩=some (.slice pnv NL cnv)) (by kernel_rfl) (by rw [←HWD.out];exact HSH.out) (fun hHeld=>?_)
       rw [←HWD.out] at hHeld ⊢
       clear HWD C9
       refine rU 0 (some 73) ?_
       refine rU 1 (some 74) ?_
       refine rU 2 (some 75) ?_
       refine rU 3 (some 76) ?_
       refine rU 4 (some 77) ?_
       refine rU 5 (some 78) ?_
       refine rU 6 (some 79) ?_
       refine rU 7 (some 80) ?_
       refine rU 8 (some 81) ?_
       refine rU 9 (some 82) ?_
       refine rU 10 (some 83) ?_
       refine rU 11 (some 84) ?_
       refine rU 12 (some 85) ?_
       refine rU 13 (some 86) ?_
       refine rU 14 (some 87) ?_
       refine rU 15 (some 88) ?_
       refine rU 16 (some 89) ?_
       refine rU 17 (some 90) ?_
       clear hHeld
       have q0:=cells5 (CD.out.b 0 rfl)
       refine rR1 18 none (fun K hK=>?_)
       go_simp
       clear q0
       refine hK.out _ _ ?_ (fun hHeld=>?_)
       ·exact⟨zBT (zEQ wd R _ _ _ _ _) HSH.out.1 (ne_sm HNE.out.1),zBT (zEQ wd R _ _ _ _ _) HSH.out.2.1 (ne_sm HNE.out.1),zBT (zEQ wd R _ _ _ _ _) HSH.out.2.2.1 (ne_sm HNE.out.2),zBT (zEQ wd R _ _ _ _ _) HSH.out.2.2.2.1 (ne_sm HNE.out.2),zBT (zEQ wd R _ _ _ _ _) HSH.out.2.2.2.2 (ne_sm HNE.out.2)⟩
       clear hK K
       try simp only [Act.put,q0,q1,q2]
       refine rU 19 (some 7) ?_
       refine wpAnyH_done (by kernel_rfl) ?_ _
       go_wp2_with fail
       refine Mz.retM CD.out 0 rfl Tryz.results35 rfl rfl rfl (fun W9 h9=>?_)
       obtain⟨hb9,hc9,hn9⟩:=Mg.rows h9
       rw [HCL.out] at hc9
       rw [HNL.out] at hn9
       have h8:=zPP HN.out HPN.out hb9 hc9 hn9
       rw [HLO.out] at h8
       exact h8
   ·rw [hlg] at g11
    have HN:Hid (Co.gM cs cl m=none):=zh (zIK HGG.out (.inl hlg))
    have q0:=cells5 (C9.out.b 0 rfl)
    go_wp2_with fail
    refine Mz.retM C9.out 0 rfl Tryz.results35 rfl rfl rfl (fun W9 h9=>zGI HN.out h9.gr.fresh)
end Cw
end Go.Proofs.YtcnmfcgmnkncaaaGreatDoor
namespace Go.Proofs.YtcnmfcgmnkncaaaGreatDoor
open Go.RowKit Go.Maps
def kl (s:ByteArray):Lit:= .string s.data.toList
theorem keyStr:Keyed Tryz.prog 9:=string_keyed Tryz.underlying9
theorem keyOfStr (s:ByteArray) (hs:s.size≤maxLen):keyOf Tryz.prog 9 (.string s)=some (kl s):=WideMaps.keyOf_string_mk Tryz.underlying9 hs
theorem zS3 (s:ByteArray):WideAt.IsKeyLit (kl s):=by unfold kl WideAt.IsKeyLit;trivial
theorem kl_inj {a b:ByteArray} (h:kl a=kl b):a=b:=by
 unfold kl at h
 injection h with h
 cases a with
 |mk a=>
  cases b with
  |mk b=>
   simp only at h
   have:=Array.toList_inj.1 h
   rw [this]
theorem zTP (a b:ByteArray):(kl a).sameKey (kl b)=decide (a=b):=by
 rw [Bool.eq_iff_iff,WideAt.sameKey_iff (zS3 b),decide_eq_true_eq]
 exact⟨kl_inj,fun h=>by rw [h]⟩
def tru:DataW Unit:= .lit (.bool true)
theorem zPX (l:List ByteArray):∀x∈l.map kl,WideAt.IsKeyLit x:=by
 intro x hx
 obtain⟨s,_,rfl⟩:=List.mem_map.1 hx
 exact zS3 s
def SetB (w:World) (b n:Nat) (l:List ByteArray):Prop:=
 w.ownsMap Tryz.prog 9 (plainElem Tryz.prog 4) b n (setOf tru (l.map kl))
theorem SetB.made (w:World):SetB (w.alloc (.map #[] 0)) w.heap.size 0 []:=World.ownsMap_made w _ _ _
theorem SetB.grown {w w':World} {b n:Nat} {l:List ByteArray} {row:Option Nat} (h:SetB w b n l) (hg:w.grownBy w' row) (hne:some b≠row):SetB w' b n l:=World.ownsMap.kept h hg hne
theorem SetB.keep {w w':World} {b n:Nat} {l:List ByteArray} (h:SetB w b n l) (hb:Below w.heap.size w w'):SetB w' b n l:=h.grown (row:=none) (zCO hb) (by simp)
theorem SetB.alloc {w:World} {b n:Nat} {l:List ByteArray} (h:SetB w b n l) (o:Obj):SetB (w.alloc o) b n l:=World.ownsMap.alloc h o
theorem SetB.mono {w:World} {b n n':Nat} {l:List ByteArray} (h:SetB w b n l) (hn:n≤n'):SetB w b n' l:=World.ownsMap.mono h hn
theorem zH4 (u z:DataW Unit) (k:Lit):∀(acc:List Lit) (m:DataW Unit),IsMap m→(∀x∈acc,WideAt.IsKeyLit x)→
 (acc.foldl (fun m x=>m.put x u) m).atKey k z=if acc.any (fun x=>x.sameKey k) then u else m.atKey k z
 | [],m,_,_=>by simp
 |x::r,m,hm,h=>by
  rw [List.foldl_cons,zH4 u z k r (m.put x u) (hm.put x u) (fun y hy=>h y (by simp [hy])),List.any_cons]
  by_cases e:k=x
  ·subst e
   rw [atKey_put_same hm (h k (by simp)),WideAt.sameKey_self (h k (by simp))]
   simp
  ·rw [atKey_put_other e,sameKey_ne (fun e'=>e e'.symm),Bool.false_or]
theorem zTB (l:List ByteArray) (s:ByteArray):(l.map kl).any (fun x=>x.sameKey (kl s))=Ck.hasS l s:=by
 unfold Ck.hasS
 rw [List.any_map]
 congr 1
 funext x
 exact zTP x s
theorem zQ3 (l:List ByteArray) (s:ByteArray):(setOf tru (l.map kl)).atKey (kl s) (.lit (.bool false))= .lit (.bool (Ck.hasS l s)):=by
 unfold setOf
 rw [zH4 tru _ (kl s) (l.map kl) _ isMap_empty (zPX l),zTB]
 cases Ck.hasS l s
 ·rfl
 ·rfl
theorem zEB {P:Program} {e:TypeId} (he:P.underlying e=some .bool) {v:Value} {x:Bool} {ps:List MemPlace} (h:plainElem P e v=some ((.lit (.bool x):DataW Unit),ps)):v= .bool x:=by
 unfold plainElem at h
 rw [he] at h
 cases v with
 |bool y=>simp at h;rw [h.1]
 |_=>simp at h
theorem zKH {v:Value} {x:Bool} {ps:List MemPlace} (h:plainElem Tryz.prog 4 v=some ((.lit (.bool x):DataW Unit),ps)):v= .bool x:=zEB Tryz.underlying4 h
theorem boolZero (w:World):(zeroValue 4).run Tryz.prog w= .ok (.bool false) w:=by kernel_rfl
theorem SetB.look {w:World} {b n:Nat} {l:List ByteArray} (h:SetB w b n l) (s:ByteArray) (hs:s.size≤maxLen):
 (Instr.lookup 151 (.map (some b)) (.string s) false).run Tryz.prog w= .ok (.bool (Ck.hasS l s)) w:=by
 obtain⟨v,ps,hrun,hv⟩:=World.ownsMap.lookup h keyStr Tryz.underlying151 (boolZero w) (plainElem_bool Tryz.underlying4 false) (keyOfStr s hs)
 rw [zQ3] at hv
 rw [hrun,zKH hv]
theorem zBQ (w:World) {ops:Array Oper} {rest:List Oper} {o:Oper} {a:Act} {Q:Exit→Act→World→Prop}
 (hg:o.guard=none) (m x v:Operand) (hop:o.op=Op.mapUpdate 151 m x v) (b n:Nat) (l:List ByteArray) (hm:a.eval m= .map (some b)) (h:SetB w b n l) (hn:n<maxLen) (s:ByteArray) (hs:s.size≤maxLen) (hx:a.eval x= .string s) (hv:a.eval v= .bool true)
 (hK:∀w',SetB w' b (n+1) (l++ [s])→w.grownBy w' (some b)→wpList Tryz.prog ops Q rest (a.put o.dst undef) w'):wpList Tryz.prog ops Q (o::rest) a w:=
 wpList_mapUpdate_own w hg m x v 151 hop 9 4 keyStr Tryz.underlying151 (plainElem Tryz.prog 4) b n (setOf tru (l.map kl)) hm h hn (.string s) (.bool true) (kl s) hx hv (keyOfStr s hs) tru [] (plainElem_bool Tryz.underlying4 true)
  (fun w' h1 h2=>hK w' (by unfold SetB;rw [List.map_append,List.map_cons,List.map_nil,setOf_snoc];exact h1) h2)
def dist (l:List ByteArray):Nat:=(l.foldl (fun acc x=>if Ck.hasS acc x then acc else acc++ [x]) []).length
theorem zMV:∀(l acc:List ByteArray),(l.map kl).foldl addKey (acc.map kl)=((l.foldl (fun acc x=>if Ck.hasS acc x then acc else acc++ [x]) acc).map kl)
 | [],acc=>rfl
 |x::r,acc=>by
  rw [List.map_cons,List.foldl_cons,List.foldl_cons]
  have e:addKey (acc.map kl) (kl x)=(if Ck.hasS acc x then acc else acc++ [x]).map kl:=by
   unfold addKey
   rw [zTB]
   split<;>simp
  rw [e,zMV r]
theorem zRN (l:List ByteArray):Maps.size (setOf tru (l.map kl))=dist l:=by
 rw [size_setOf tru _ (zPX l)]
 have:=zMV l []
 rw [List.map_nil] at this
 rw [this,List.length_map]
 rfl
theorem SetB.size {w:World} {b n:Nat} {l:List ByteArray} (h:SetB w b n l):(Builtin.len_ #[151] 3 #[.map (some b)]).run Tryz.prog w= .ok (.int .i64 (dist l)) w:=by
 rw [←zRN]
 exact World.ownsMap.len h Tryz.underlying151 _
theorem zFQ (l:List ByteArray) (s:ByteArray):Ck.hasS l s=true↔s∈l:=by
 unfold Ck.hasS
 simp
theorem zMT:∀(l acc:List ByteArray),acc.length≤(l.foldl (fun acc x=>if Ck.hasS acc x then acc else acc++ [x]) acc).length∧
 (l.foldl (fun acc x=>if Ck.hasS acc x then acc else acc++ [x]) acc).length≤acc.length+l.length
 | [],acc=>by simp
 |x::r,acc=>by
  rw [List.foldl_cons]
  have h:=zMT r (if Ck.hasS acc x then acc else acc++ [x])
  split at h<;>split<;>simp_all<;>omega
theorem zHX:∀(l acc:List ByteArray),((l.foldl (fun acc x=>if Ck.hasS acc x then acc else acc++ [x]) acc).length<acc.length+l.length)↔(Ck.twice l=true∨∃x∈l,x∈acc)
 | [],acc=>by simp [Ck.twice]
 |x::r,acc=>by
  rw [List.foldl_cons,Ck.twice,Bool.or_eq_true,zFQ r x]
  by_cases h:Ck.hasS acc x=true
  ·have hst:(if Ck.hasS acc x=true then acc else acc++ [x])=acc:=if_pos h
   rw [hst]
   have h1:=(zFQ acc x).1 h
   have h2:=(zMT r acc).2
   constructor
   ·intro _;exact .inr ⟨x,by simp,h1⟩
   ·intro _;simp;omega
  ·have hst:(if Ck.hasS acc x=true then acc else acc++ [x])=acc++ [x]:=if_neg h
   rw [hst]
   have h1:x∉acc:=fun hh=>h ((zFQ acc x).2 hh)
   have h2:=zHX r (acc++ [x])
   have e:acc.length+(x::r).length=(acc++ [x]).length+r.length:=by simp;omega
   rw [e,h2]
   constructor
   ·rintro (h3|⟨y,hy,hy2⟩)
    ·exact .inl (.inr h3)
    ·rw [List.mem_append,List.mem_singleton] at hy2
     rcases hy2 with hy2|rfl
     ·exact .inr ⟨y,by simp [hy],hy2⟩
     ·exact .inl (.inl hy)
   ·rintro ((h3|h3)|⟨y,hy,hy2⟩)
    ·exact .inr ⟨x,h3,by simp⟩
    ·exact .inl h3
    ·rcases List.mem_cons.1 hy with rfl|hy
     ·exact absurd hy2 h1
     ·exact .inr ⟨y,hy,by simp [hy2]⟩
theorem zOH (l:List ByteArray):decide ((dist l:Int)<l.length)=Ck.twice l:=by
 have h:=zHX l []
 rw [List.length_nil,Nat.zero_add] at h
 rw [Bool.eq_iff_iff,decide_eq_true_eq]
 unfold dist
 rw [Int.ofNat_lt,h]
 simp
end Go.Proofs.YtcnmfcgmnkncaaaGreatDoor
