/-
  CkSet, CkPlace, CkProgA, ShelfM, CkExpr.
-/
import Derived.Maps.OwnSet
import Derived.StringKeys
import Derived.Ground.SlmcProg
import Derived.Shelf.SlMaps.Clone
import Derived.Test.YtcnmfcgmnkncaaaGreatDoorX9
import Derived.Deep.CutBlock
set_option maxRecDepth 100000
set_option maxHeartbeats 40000000
open Go.Proofs.Tryz
namespace Go.Proofs.YtcnmfcgmnkncaaaGreatDoor
open Go.RowKit Go.Maps
def kl (s:BA):Lit:= .string s.data.toList
theorem keyStr:Keyed prog 9:=string_keyed underlying9
theorem keyOfStr (s:BA) (hs:s.size<=maxLen):keyOf prog 9 (.string s)=some (kl s):=WideMaps.keyOf_string_mk underlying9 hs
theorem zUL (s:BA):WideAt.IsKeyLit (kl s):=by unfold kl WideAt.IsKeyLit;trivial
theorem kl_inj {a b:BA} (h:kl a=kl b):a=b:=by
 unfold kl at h;injection h with h
 cases a with
 |mk a=>
  cases b with
  |mk b=>
   simp only at h;have:=Array.toList_inj.1 h;rw [this]
theorem zU3 (a b:BA):(kl a).sameKey (kl b)=decide (a=b):=by
 rw [Bool.eq_iff_iff,WideAt.sameKey_iff (zUL b),decide_eq_true_eq];exact⟨kl_inj,fun h=>by rw [h]⟩
def tru:DataW Unit:= .lit (.bool true)
theorem zRD (l:List BA):∀x∈l.map kl,WideAt.IsKeyLit x:=by
 intro x hx;obtain⟨s,_,rfl⟩:=List.mem_map.1 hx;exact zUL s
def SetB (w:World) (b n:Nat) (l:List BA):Prop:=
 w.ownsMap prog 9 (plainElem prog 4) b n (setOf tru (l.map kl))
theorem SetB.made (w:World):SetB (w.alloc (.map #[] 0)) w.heap.size 0 []:=World.ownsMap_made w _ _ _
theorem SetB.grown {w w':World} {b n:Nat} {l:List BA} {row:Option Nat} (h:SetB w b n l) (hg:w.grownBy w' row) (hne:some b≠row):SetB w' b n l:=World.ownsMap.kept h hg hne
theorem SetB.keep {w w':World} {b n:Nat} {l:List BA} (h:SetB w b n l) (hb:Below w.heap.size w w'):SetB w' b n l:=h.grown (row:=none) (zDV hb) (by simp)
theorem SetB.alloc {w:World} {b n:Nat} {l:List BA} (h:SetB w b n l) (o:Obj):SetB (w.alloc o) b n l:=World.ownsMap.alloc h o
theorem SetB.mono {w:World} {b n n':Nat} {l:List BA} (h:SetB w b n l) (hn:n<=n'):SetB w b n' l:=World.ownsMap.mono h hn
theorem zJU (u z:DataW Unit) (k:Lit):∀(acc:List Lit) (m:DataW Unit),IsMap m->(∀x∈acc,WideAt.IsKeyLit x)->
 (acc.foldl (fun m x=>m.put x u) m).atKey k z=if acc.any (fun x=>x.sameKey k) then u else m.atKey k z
 | [],m,_,_=>by simp
 |x::r,m,hm,h=>by
  rw [List.foldl_cons,zJU u z k r (m.put x u) (hm.put x u) (fun y hy=>h y (by simp [hy])),List.any_cons];by_cases e:k=x
  ·subst e;rw [atKey_put_same hm (h k (by simp)),WideAt.sameKey_self (h k (by simp))];simp
  ·rw [atKey_put_other e,sameKey_ne (fun e'=>e e'.symm),Bool.false_or]
theorem zUR (l:List BA) (s:BA):(l.map kl).any (fun x=>x.sameKey (kl s))=Ck.hasS l s:=by
 unfold Ck.hasS;rw [List.any_map]
 congr 1
 funext x
 exact zU3 x s
theorem zSM (l:List BA) (s:BA):(setOf tru (l.map kl)).atKey (kl s) (.lit (.bool false))= .lit (.bool (Ck.hasS l s)):=by
 unfold setOf;rw [zJU tru _ (kl s) (l.map kl) _ isMap_empty (zRD l),zUR];cases Ck.hasS l s
 ·rfl
 ·rfl
theorem zFM {P:Program} {e:TypeId} (he:P.underlying e=some .bool) {v:Value} {x:Bool} {ps:List MemPlace} (h:plainElem P e v=some ((.lit (.bool x):DataW Unit),ps)):v= .bool x:=by
 unfold plainElem at h;rw [he] at h;cases v with
 |bool y=>simp at h;rw [h.1]
 |_=>simp at h
theorem zMA {v:Value} {x:Bool} {ps:List MemPlace} (h:plainElem prog 4 v=some ((.lit (.bool x):DataW Unit),ps)):v= .bool x:=zFM underlying4 h
theorem boolZero (w:World):(zeroValue 4).run prog w= .ok (.bool false) w:=by kernel_rfl
theorem SetB.look {w:World} {b n:Nat} {l:List BA} (h:SetB w b n l) (s:BA) (hs:s.size<=maxLen):
 (Instr.lookup 151 (.map (some b)) (.string s) false).run prog w= .ok (.bool (Ck.hasS l s)) w:=by
 obtain⟨v,ps,hrun,hv⟩:=World.ownsMap.lookup h keyStr underlying151 (boolZero w) (plainElem_bool underlying4 false) (keyOfStr s hs);rw [zSM] at hv;rw [hrun,zMA hv]
theorem zCZ (w:World) {ops:Array Oper} {rest:List Oper} {o:Oper} {a:Act} {Q:Exit->Act->World->Prop}
 (hg:o.guard=none) (m x v:Operand) (hop:o.op=Op.mapUpdate 151 m x v) (b n:Nat) (l:List BA) (hm:a.eval m= .map (some b)) (h:SetB w b n l) (hn:n<maxLen) (s:BA) (hs:s.size<=maxLen) (hx:a.eval x= .string s) (hv:a.eval v= .bool true)
 (hK:∀w',SetB w' b (n+1) (l++ [s])->w.grownBy w' (some b)->wpList prog ops Q rest (a.put o.dst undef) w'):wpList prog ops Q (o::rest) a w:=
 wpList_mapUpdate_own w hg m x v 151 hop 9 4 keyStr underlying151 (plainElem prog 4) b n (setOf tru (l.map kl)) hm h hn (.string s) (.bool true) (kl s) hx hv (keyOfStr s hs) tru [] (plainElem_bool underlying4 true)
  (fun w' h1 h2=>hK w' (by unfold SetB;rw [List.map_append,List.map_cons,List.map_nil,setOf_snoc];exact h1) h2)
def dist (l:List BA):Nat:=(l.foldl (fun acc x=>if Ck.hasS acc x then acc else acc++ [x]) []).length
theorem zOA:∀(l acc:List BA),(l.map kl).foldl addKey (acc.map kl)=((l.foldl (fun acc x=>if Ck.hasS acc x then acc else acc++ [x]) acc).map kl)
 | [],acc=>rfl
 |x::r,acc=>by
  rw [List.map_cons,List.foldl_cons,List.foldl_cons];have e:addKey (acc.map kl) (kl x)=(if Ck.hasS acc x then acc else acc++ [x]).map kl:=by
   unfold addKey;rw [zUR]
   split<;>simp
  rw [e,zOA r]
theorem zS9 (l:List BA):Maps.size (setOf tru (l.map kl))=dist l:=by
 rw [size_setOf tru _ (zRD l)];have:=zOA l [];rw [List.map_nil] at this;rw [this,List.length_map]
 rfl
theorem SetB.size {w:World} {b n:Nat} {l:List BA} (h:SetB w b n l):(Builtin.len_ #[151] 3 #[.map (some b)]).run prog w= .ok (.int .i64 (dist l)) w:=by
 rw [<-zS9];exact World.ownsMap.len h underlying151 _
theorem zG6 (l:List BA) (s:BA):Ck.hasS l s=true↔s∈l:=by
 unfold Ck.hasS;simp
theorem zN8:∀(l acc:List BA),acc.length<=(l.foldl (fun acc x=>if Ck.hasS acc x then acc else acc++ [x]) acc).length/\
 (l.foldl (fun acc x=>if Ck.hasS acc x then acc else acc++ [x]) acc).length<=acc.length+l.length
 | [],acc=>by simp
 |x::r,acc=>by
  rw [List.foldl_cons];have h:=zN8 r (if Ck.hasS acc x then acc else acc++ [x])
  split at h<;>split<;>simp_all<;>omega
theorem zJL:∀(l acc:List BA),((l.foldl (fun acc x=>if Ck.hasS acc x then acc else acc++ [x]) acc).length<acc.length+l.length)↔(Ck.twice l=true\/∃x∈l,x∈acc)
 | [],acc=>by simp [Ck.twice]
 |x::r,acc=>by
  rw [List.foldl_cons,Ck.twice,Bool.or_eq_true,zG6 r x];by_cases h:Ck.hasS acc x=true
  ·have hst:(if Ck.hasS acc x=true then acc else acc++ [x])=acc:=kD h;rw [hst];have h1:=(zG6 acc x).1 h;have h2:=(zN8 r acc).2
   constructor
   ·intro _;exact .inr ⟨x,by simp,h1⟩
   ·intro _;simp;omega
  ·have hst:(if Ck.hasS acc x=true then acc else acc++ [x])=acc++ [x]:=kC h;rw [hst];have h1:x∉acc:=fun hh=>h ((zG6 acc x).2 hh)
   have h2:=zJL r (acc++ [x]);have e:acc.length+(x::r).length=(acc++ [x]).length+r.length:=by simp;omega
   rw [e,h2]
   constructor
   ·rintro (h3|⟨y,hy,hy2⟩)
    ·exact .inl (.inr h3)
    ·rw [kU,kT] at hy2;rcases hy2 with hy2|rfl
     ·exact .inr ⟨y,by simp [hy],hy2⟩
     ·exact .inl (.inl hy)
   ·rintro ((h3|h3)|⟨y,hy,hy2⟩)
    ·exact .inr ⟨x,h3,by simp⟩
    ·exact .inl h3
    ·rcases kV.1 hy with rfl|hy
     ·exact absurd hy2 h1
     ·exact .inr ⟨y,hy,by simp [hy2]⟩
theorem zPW (l:List BA):decide ((dist l:Int)<l.length)=Ck.twice l:=by
 have h:=zJL l [];rw [kQ,Nat.zero_add] at h;rw [Bool.eq_iff_iff,decide_eq_true_eq];unfold dist;rw [Int.ofNat_lt,h];simp
end Go.Proofs.YtcnmfcgmnkncaaaGreatDoor
namespace Go.Proofs.YtcnmfcgmnkncaaaGreatDoor
open Go.RowKit
def placeCells (cv:Value) (c:Tr.C) (fv mv:Value) (f:Nat->Bool):Array Value:= #[cv,.string c.name,.bool c.actor,fv,mv,.bool (f 0),.bool (f 1),.bool (f 2),.bool (f 3),.bool (f 4),.bool (f 5),.bool (f 6),.bool (f 7),.bool (f 8),.bool (f 9),.bool (f 10),.bool (f 11),.bool (f 12)]
def PlaceAt (w:World) (P:Nat) (cv:Value) (c:Tr.C) (fv mv:Value) (f:Nat->Bool):Prop:=w.heap[P]? =some (.cells (placeCells cv c fv mv f) 144 (0,0))
section
variable {w w':World} {P:Nat} {cv fv mv:Value} {c:Tr.C} {f:Nat->Bool}
theorem PlaceAt.lt (h:PlaceAt w P cv c fv mv f):P<w.heap.size:=lt_of_block h
theorem PlaceAt.cell (h:PlaceAt w P cv c fv mv f) {j:Nat} {u:Value} (hj:(placeCells cv c fv mv f)[j]? =some u):w.cell? ⟨P,j,none⟩=some u:=by
 unfold PlaceAt at h;simp only [World.cell?,h]
 simpa using hj
theorem PlaceAt.free (h:PlaceAt w P cv c fv mv f) (j:Nat):w.frozen? ⟨P,j,none⟩=false:=by
 unfold PlaceAt at h;simp [World.frozen?,h]
theorem PlaceAt.grown {row:Option Nat} (h:PlaceAt w P cv c fv mv f) (hg:w.grownBy w' row) (hne:some P≠row):PlaceAt w' P cv c fv mv f:=by
 unfold PlaceAt;rw [hg.block P h.lt hne];exact h
theorem PlaceAt.keep (h:PlaceAt w P cv c fv mv f) (hb:Below w.heap.size w w'):PlaceAt w' P cv c fv mv f:=h.grown (row:=none) (zDV hb) (by simp)
theorem PlaceAt.made (w:World) (cv:Value) (c:Tr.C) (fv mv:Value) (f:Nat->Bool):PlaceAt (w.alloc (.cells (placeCells cv c fv mv f) 144)) w.heap.size cv c fv mv f:=(MapKept.heap_alloc w _).1
theorem PlaceAt.found (h:PlaceAt w P cv c fv mv f) {k:Nat} (hk:k<13):w.cell? ⟨P,5+k,none⟩=some (.bool (f k)):=by
 refine h.cell ?_
 match k,hk with
 |0,_=>rfl|1,_=>rfl|2,_=>rfl|3,_=>rfl|4,_=>rfl|5,_=>rfl|6,_=>rfl|7,_=>rfl|8,_=>rfl|9,_=>rfl|10,_=>rfl|11,_=>rfl|12,_=>rfl
theorem heap_set {w:World} {P j:Nat} {cs:Array Value} {t:TypeId} {r:Nat × Nat} (u:Value) (h:w.heap[P]? =some (.cells cs t r)):(w.setCell ⟨P,j,none⟩ u).heap[P]? =some (.cells (cs.setIfInBounds j u) t r):=by
 have hlt:=lt_of_block h;have h':w.heap[P]= .cells cs t r:=by simpa [Array.getElem?_eq_getElem hlt] using h
 show(w.heap.modify P _)[P]? =_
 rw [Array.getElem?_eq_getElem (by simpa using hlt),Array.getElem_modify_self,h']
 rfl
theorem zQ0 (cv:Value) (c:Tr.C) (fv mv:Value) (f:Nat->Bool) {k:Nat} (hk:k<13):(placeCells cv c fv mv f).setIfInBounds (5+k) (.bool true)=placeCells cv c fv mv (fun t=>f t||(t == k)):=by
 unfold placeCells
 match k,hk with
 |0,_=>simp|1,_=>simp|2,_=>simp|3,_=>simp|4,_=>simp|5,_=>simp|6,_=>simp|7,_=>simp|8,_=>simp|9,_=>simp|10,_=>simp|11,_=>simp|12,_=>simp
theorem PlaceAt.set (h:PlaceAt w P cv c fv mv f) {k:Nat} (hk:k<13):PlaceAt (w.setCell ⟨P,5+k,none⟩ (.bool true)) P cv c fv mv (fun t=>f t||(t == k)):=by
 unfold PlaceAt;rw [heap_set _ h,zQ0 _ _ _ _ _ hk]
theorem zB6 (w:World) (P j:Nat) (u:Value):w.grownBy (w.setCell ⟨P,j,none⟩ u) (some P):=
 ⟨rfl,rfl,rfl,by simp [World.setCell],fun k _ hk=>Below.heap_setCell w _ u k (fun e=>hk (by rw [e]))⟩
end
theorem zBU (P k:Nat) (b:Bool) (w:World) (cv:Value) (c:Tr.C) (fv mv:Value) (f:Nat->Bool) (hk:k<13) (hP:PlaceAt w P cv c fv mv f):
 Calls prog 84 #[.pointer (some ⟨P,0,none⟩),.int .i64 k,.bool b] w fun e w'=>e= .returned (.tuple #[])/\PlaceAt w' P cv c fv mv (fun t=>f t||(t == k && b))/\w.grownBy w' (some P):=by
 have HP:=zh hP;cases b
 ·clear hP;go_in;go_wp2;go_end0;exact⟨rfl,by simp only [Bool.and_false,Bool.or_false];exact HP,grown_refl _ _⟩
 ·have hc:=hP.found hk;have hf:=hP.free (5+k);have HS:=zh (hP.set hk);clear hP;go_in;go_wp2;go_end0;exact⟨rfl,by simp only [Bool.and_true];exact HS,zB6 _ _ _ _⟩
end Go.Proofs.YtcnmfcgmnkncaaaGreatDoor
namespace Go.Proofs.YtcnmfcgmnkncaaaGreatDoor
open Go.RowKit Go.Maps
theorem zA3 {α:Type} {l:List α} {j:Nat} {x:α} (h:l[j]? =some x):l.take (j+1)=l.take j++ [x]:=by
 rw [List.take_add_one,h];rfl
theorem zGM (v:Value) (l:List BA) (w:World) (h:SlStr w v l):
 Calls prog 85 #[v] w fun e w'=>e= .returned (.bool (Ck.twice l))/\Below w.heap.size w w':=by
 obtain⟨p,c,rfl⟩:=h.form;have hll:=h.len;unfold maxLen at hll;obtain⟨N,hN⟩:∃N,l.length=N:=⟨_,rfl⟩;rw [hN] at h hll |-;have hmm:=@run_makeMap prog;have HS:=zh h;have HN:=zh hN;clear h hN;go_in;go_wp2
 go_loopw [9] (fun s9 wr=>∃k:Nat,s9= .int .i64 k/\k<=N/\SetB wr w.heap.size k (l.take k)/\Below w.heap.size w wr) (fun s9 _=>N -(intOf s9).toNat)
 case atStart=>exact ⟨0,rfl,kO _,SetB.made w,zD _ _⟩
 case round=>
  obtain⟨k,rfl,hk,hset,hbr⟩:=hrel;have HST:=zh hset;have HBR:=zh hbr;by_cases hlt:k<N
  ·obtain⟨x,hx⟩:∃x,l[k]? =some x:=⟨_,kB (by rw [HN.out];exact hlt)⟩;obtain⟨p2,c2,e2,_,_,hcell⟩:=HS.keep hbr;cases e2;obtain⟨hsz,b,oo,rfl,_,hc⟩:=hcell k x hx;have HX:=zh hx;clear hset hbr hcell hx;go_wp2_with (at_mapUpdate;refine zCZ _ rfl _ _ _ rfl w.heap.size k (l.take k) rfl HST (by unfold maxLen;omega) x hsz rfl rfl ?_;intro w1 hs1 hg1);go_roundw
   case rel=>exact ⟨k+1,by go_num,by omega,by rw [zA3 HX.out];exact hs1,HBR.grown hg1 HBR.size (fun q hq=>by cases hq;exact kL _)⟩
   case measure=>simp [intOf];omega
  ·have hlen:=hset.size;have hfull:l.take k=l:=kR (by rw [HN.out];omega);rw [hfull] at hlen;have hdt:decide (dist l<l.length)=Ck.twice l:=(decide_eq_decide.2 (by omega)).symm.trans (zPW l);rw [HN.out] at hdt;have HD:=zh hdt;clear hset hbr hfull hdt;go_wp2;go_ret;exact⟨zBT HD,HBR⟩
theorem zQ8 (l:List Tr.S) (x:Tr.S):Ck.lets (l++ [x])=Ck.lets l+Ck.letsS x:=by
 induction l with
 |nil=>simp [Ck.lets]
 |cons y r ih=>rw [List.cons_append,Ck.lets,Ck.lets,ih];omega
theorem zCW (l:List Tr.S) (k:Nat):Ck.lets (l.take k)<=Ck.lets l:=by
 induction l generalizing k with
 |nil=>simp
 |cons y r ih=>
  cases k with
  |zero=>simp [Ck.lets]
  |succ k=>rw [List.take_succ_cons,Ck.lets,Ck.lets];have:=ih k;omega
theorem zLN {B:Nat} {u v:Value} {wb w0 w':World} (h:w0.cell? ⟨B,3,none⟩=some u/\w0.cell? ⟨B,4,none⟩=some v/\Hid (Below wb.heap.size wb w0)) (hb:Below w0.heap.size w0 w'):
 w'.cell? ⟨B,3,none⟩=some u/\w'.cell? ⟨B,4,none⟩=some v/\Hid (Below wb.heap.size wb w'):=⟨zA hb h.1,zA hb h.2.1,zC h.2.2 hb⟩
theorem zA5 {a b:Prop} {wb w:World} (h:a/\b/\Hid (Below wb.heap.size wb w)):Below wb.heap.size wb w:=h.2.2.out
theorem zFR {l:List Tr.S} {j:Nat} {x:Tr.S} (h:l[j]? =some x):Ck.lets (l.take (j+1))=Ck.lets (l.take j)+((if x.kind=0 then 1 else 0)+Ck.lets x.body+Ck.lets x.els):=by
 rw [zA3 h,zQ8];cases x;rfl
theorem zTP:∀(d:Nat) (l:List Tr.S) (v:Value) (w:World),Tr.S.deep.deeps l<=d->SlS w v l->Ck.lets l<=1000000->
 Calls prog 88 #[v] w fun e w'=>e= .returned (.int .i64 (Ck.lets l))/\Below w.heap.size w w':=by
 intro d
 induction d using Nat.strongRecOn with
 |ind d ih=>
  intro l v w hd h hbd;obtain⟨p,c,rfl,_⟩:=h.form;have hll:=h.len;unfold maxLen at hll;obtain⟨N,hN⟩:∃N,l.length=N:=⟨_,rfl⟩;rw [hN] at h hll |-;have HS:=zh h;have HN:=zh hN;have HIH:=zh ih;have HD:=zh hd;have HBD:=zh hbd;clear h hN ih hd hbd;go_in;go_wp2
  go_loopw [3,8] (fun s3 s8 wr=>∃k m:Nat,s8= .int .i64 k/\k<=N/\s3= .int .i64 m/\m=Ck.lets (l.take k)/\Below w.heap.size w wr) (fun _ s8 _=>N -(intOf s8).toNat)
  case atStart=>exact ⟨0,0,rfl,kO _,rfl,by simp [Ck.lets],Below.refl _ _⟩
  case round=>
   obtain⟨k,m,rfl,hk,rfl,hm,hbr⟩:=hrel;have HM:=zh hm;have HBR:=zh hbr;by_cases hlt:k<N
   ·obtain⟨x,hx⟩:∃x,l[k]? =some x:=⟨_,kB (by rw [HN.out];exact hlt)⟩;obtain⟨b,oo,vx,vy,vz,rfl,hblt,hc,hbd,hsx,hsy,hsz⟩:=(HS.keep hbr).get hx;obtain⟨x0,x1,x2,x3,x4⟩:=hc;obtain⟨px,cx,rfl,_⟩:=hsx.form;obtain⟨py,cy,rfl,_⟩:=hsy.form;obtain⟨pz,cz,rfl,_⟩:=hsz.form;have hnext:=zFR hx;have htk:=zCW l (k+1);have hle:=HBD.out;obtain⟨dp1,dp2,dp3⟩:=Tr.S.deep_in HD hx;have hbx:=zD wr (.cells #[.int .i64 x.kind,.string x.name,.slice px x.exprs.length cx,.slice py x.body.length cy,.slice pz x.els.length cz] 71);have c0:=zJ wr #[.int .i64 x.kind,.string x.name,.slice px x.exprs.length cx,.slice py x.body.length cy,.slice pz x.els.length cz] 71 0 _ rfl;have c3:=zJ wr #[.int .i64 x.kind,.string x.name,.slice px x.exprs.length cx,.slice py x.body.length cy,.slice pz x.els.length cz] 71 3 _ rfl;have c4:=zJ wr #[.int .i64 x.kind,.string x.name,.slice px x.exprs.length cx,.slice py x.body.length cy,.slice pz x.els.length cz] 71 4 _ rfl;obtain⟨y,hy⟩:∃y,Ck.lets x.body=y:=⟨_,rfl⟩;obtain⟨z,hz⟩:∃y,Ck.lets x.els=y:=⟨_,rfl⟩;rw [hy,hz] at hnext;obtain⟨w1,hw1⟩:∃w1,w1=wr.alloc (.cells #[.int .i64 x.kind,.string x.name,.slice px x.exprs.length cx,.slice py x.body.length cy,.slice pz x.els.length cz] 71):=⟨_,rfl⟩;rw [<-hw1] at hbx c0 c3 c4;have K1:Hid (∀W,Below w1.heap.size w1 W->Calls prog 88 #[.slice py x.body.length cy] W fun e w'=>e= .returned (.int .i64 y)/\Below W.heap.size W w'):=fun W hb=>hy▸HIH (d -1) (by omega) x.body _ W dp2 ((hsy.keep hbx).keep hb) (by omega)
    have K2:Hid (∀W,Below w1.heap.size w1 W->Calls prog 88 #[.slice pz x.els.length cz] W fun e w'=>e= .returned (.int .i64 z)/\Below W.heap.size W w'):=fun W hb=>hz▸HIH (d -1) (by omega) x.els _ W dp3 ((hsz.keep hbx).keep hb) (by omega)
    have HBX:=zh (zC hbr hbx);have HW1:=zh hw1;have hbd1:m+y+z+1<=1000001:=by rw [hnext,<-hm] at htk;omega
    have hbd2:m+(y+z)<=1000000:=by rw [hnext,<-hm] at htk;omega
    by_cases hk0:x.kind=0
    ·have hk1:(x.kind == 0)=true:=kX.2 hk0;have HNX:=zh (show Ck.lets (l.take (k+1))=Ck.lets (l.take k)+(1+y+z) by rw [hnext,kD hk0]);clear hx hbr hsx hsy hsz hbd hnext htk hle dp1 dp2 dp3 hbx hw1 hk0 hy hz hm;have hs1:IntKind.i64.wrap ((y:Int)+(z:Int))=(y:Int)+(z:Int):=IntWalk.i64_in _ (by omega);have hs2:IntKind.i64.wrap ((m:Int)+1+((y:Int)+(z:Int)))=(m:Int)+1+((y:Int)+(z:Int)):=IntWalk.i64_in _ (by omega);go_wp2_with fail;rw [<-HW1.out];clear hbd1
     go_region_held3 (fun w'=>w'.cell? ⟨wr.heap.size,3,none⟩=some (.slice py x.body.length cy)/\w'.cell? ⟨wr.heap.size,4,none⟩=some (.slice pz x.els.length cz)/\Hid (Below w1.heap.size w1 w')) (first|exact zLN (by assumption) hb|exact ⟨c3,c4,zh (Below.refl _ _)⟩|exact ⟨c3,c4,zh (Below.refl _ _).drew⟩|go_keep) (first|(go_at_call 88;(with_reducible refine(K1.out _ (zA5 (by assumption))).mono ?_);rintro e w' ⟨rfl,hb⟩)|(go_at_call 88;(with_reducible refine(K2.out _ (zA5 (by assumption))).mono ?_);rintro e w' ⟨rfl,hb⟩))
     all_goals
      have hbf:=zA5 (by assumption);clear hs1 hs2;go_wp2_with fail;go_roundw
      case rel=>exact ⟨k+1,m+1+(y+z),by go_num,by omega,by go_num,by rw [HNX.out,<-HM.out];omega,zC HBX hbf⟩
      case measure=>simp [intOf];omega
    ·have hk1:(x.kind == 0)=false:=kA.2 hk0;have HNX:=zh (show Ck.lets (l.take (k+1))=Ck.lets (l.take k)+(0+y+z) by rw [hnext,kC hk0]);clear hx hbr hsx hsy hsz hbd hnext htk hle dp1 dp2 dp3 hbx hw1 hk0 hy hz hm;have hs1:IntKind.i64.wrap ((y:Int)+(z:Int))=(y:Int)+(z:Int):=IntWalk.i64_in _ (by omega);have hs2:IntKind.i64.wrap ((m:Int)+((y:Int)+(z:Int)))=(m:Int)+((y:Int)+(z:Int)):=IntWalk.i64_in _ (by omega);go_wp2_with fail;rw [<-HW1.out];clear hbd1
     go_region_held3 (fun w'=>w'.cell? ⟨wr.heap.size,3,none⟩=some (.slice py x.body.length cy)/\w'.cell? ⟨wr.heap.size,4,none⟩=some (.slice pz x.els.length cz)/\Hid (Below w1.heap.size w1 w')) (first|exact zLN (by assumption) hb|exact ⟨c3,c4,zh (Below.refl _ _)⟩|exact ⟨c3,c4,zh (Below.refl _ _).drew⟩|go_keep) (first|(go_at_call 88;(with_reducible refine(K1.out _ (zA5 (by assumption))).mono ?_);rintro e w' ⟨rfl,hb⟩)|(go_at_call 88;(with_reducible refine(K2.out _ (zA5 (by assumption))).mono ?_);rintro e w' ⟨rfl,hb⟩))
     all_goals
      have hbf:=zA5 (by assumption);clear hs1 hs2;go_wp2_with fail;go_roundw
      case rel=>exact ⟨k+1,m+(y+z),by go_num,by omega,by go_num,by rw [HNX.out,<-HM.out];omega,zC HBX hbf⟩
      case measure=>simp [intOf];omega
   ·have hfull:l.take k=l:=kR (by rw [HN.out];omega);rw [hfull] at hm;have HM2:=zh hm;clear hbr hm hfull;go_wp2;go_ret;exact⟨by rw [HM2.out];rfl,HBR⟩
end Go.Proofs.YtcnmfcgmnkncaaaGreatDoor
namespace Go.Proofs
open Go.Shelf
def Tryz.cloneSet_ren:Go.Shelf.Ren:=⟨fun|5=>127|7=>168|n=>n,fun|23=>151|25=>9|3=>4|4=>4|20=>20|n=>n,fun|n=>n⟩
theorem Tryz.cloneSet:Go.Proofs.SlLaysW.n5 prog Tryz.cloneSet_ren:= {
 mixed:=by kernel_rfl
 f5:=⟨Tryz.f127.name,by decide,func127.trans (congrArg some (by kernel_rfl))⟩
 f7:=func168.trans (congrArg some (by kernel_rfl))
 t4:=underlying4
 a4:=isAgg4
 z4:=sizeOf4
 v4:=zeroValue4
 t20:=underlying20
 a20:=isAgg20
 z20:=sizeOf20
 v20:=zeroValue20
 t23:=underlying151
 a23:=isAgg151
 z23:=sizeOf151
 v23:=zeroValue151 }
end Go.Proofs
namespace Go.Proofs.YtcnmfcgmnkncaaaGreatDoor
open Go.RowKit Go.Maps
theorem zGT (v:Value) (l:List BA) (s:BA) (w:World) (h:SlStr w v l):
 Calls prog 129 #[v,.string s] w fun e w'=>e= .returned (.bool (Ck.hasS l s))/\w'=w:=by
 obtain⟨p,c,rfl,hl,hn,hx⟩:=h;unfold maxLen at hl;cases hl0:l with
 |nil=>
  exact Tryz.slices_Contains_string_empty p c s w
 |cons x r=>
  rw [<-hl0];obtain⟨_,b,o,rfl,_⟩:=hx 0 x (by rw [hl0];rfl);have h1:=Tryz.slices_Contains_string b o l.length c l s w (kL _) hl (by
   intro j hj;obtain⟨_,b2,o2,e,_,hc⟩:=hx j l[j] (kB hj);cases e;rw [hc,List.getD_eq_getElem?_getD,kB hj]
   rfl)
  refine h1.mono ?_;rintro e w' ⟨rfl,rfl⟩;refine⟨zBT ?_,rfl⟩;rw [kR (kL _),Bool.eq_iff_iff,Lib.containsS_iff,zG6]
theorem PlaceAt.congr {w:World} {P:Nat} {cv fv mv:Value} {c:Tr.C} {f g:Nat->Bool} (h:PlaceAt w P cv c fv mv f) (he:∀t,f t=g t):PlaceAt w P cv c fv mv g:=by
 have:f=g:=funext he;rw [<-this];exact h
theorem SetB.ne {w:World} {P B n:Nat} {cv fv mv:Value} {c:Tr.C} {f:Nat->Bool} {l:List BA} (h:PlaceAt w P cv c fv mv f) (hs:SetB w B n l):B≠P:=by
 rintro rfl;obtain⟨es,clock,hb,_⟩:=hs;unfold PlaceAt at h;rw [h] at hb;cases hb
theorem zO {w0 w w':World} {P:Nat} (h:Below w0.heap.size w0 w) (hg:w.grownBy w' (some P)) (hP:w0.heap.size<=P):Below w0.heap.size w0 w':=
 h.grown hg h.size (fun q hq=>by cases hq;exact hP)
theorem zL {w w':World} {r:Option Nat} (hb:Below w.heap.size w w'):w.grownBy w' r:=⟨hb.os,hb.tape,hb.output,hb.size,fun k hk _=>hb.block k hk⟩
structure ESt (w:World) (P bx B n:Nat) (cv:Value) (c:Tr.C) (fv mv:Value) (vars:List BA) (cells:Array Value) (f:Nat->Bool) (W:World):Prop where
 place:PlaceAt W P cv c fv mv f
 set:SetB W B n vars
 grown:w.grownBy W (some P)
 box:∀(j:Nat) (u:Value),cells[j]? =some u->W.cell? ⟨bx,j,none⟩=some u
 ne:bx≠P
section
variable {w:World} {P bx B n:Nat} {cv:Value} {c:Tr.C} {fv mv:Value} {vars:List BA} {cells:Array Value} {f:Nat->Bool} {W W':World}
theorem ESt.next (h:ESt w P bx B n cv c fv mv vars cells f W) {g:Nat->Bool} (hp:PlaceAt W' P cv c fv mv g) (hg:W.grownBy W' (some P)):ESt w P bx B n cv c fv mv vars cells g W':=
 ⟨hp,h.set.grown hg (by have:=SetB.ne h.place h.set;simpa using this),zCP h.grown hg,fun j u hu=>hg.cell (h.box j u hu) (by simpa using h.ne),h.ne⟩
theorem ESt.keep (h:ESt w P bx B n cv c fv mv vars cells f W) (hb:Below W.heap.size W W'):ESt w P bx B n cv c fv mv vars cells f W':=h.next (h.place.keep hb) (zL hb)
theorem ESt.drew (h:ESt w P bx B n cv c fv mv vars cells f W):ESt w P bx B n cv c fv mv vars cells f W.drew:=h.keep (Below.refl _ _).drew
theorem ESt.congr (h:ESt w P bx B n cv c fv mv vars cells f W) {g:Nat->Bool} (he:∀t,f t=g t):ESt w P bx B n cv c fv mv vars cells g W:=⟨h.place.congr he,h.set,h.grown,h.box,h.ne⟩
theorem ESt.made (hp:PlaceAt w P cv c fv mv f) (hs:SetB w B n vars) (cells:Array Value) (t:TypeId):ESt w P w.heap.size B n cv c fv mv vars cells f (w.alloc (.cells cells t)):=
 ⟨hp.keep (zD _ _),hs.alloc _,World.grownBy_alloc _ _ _,fun j u hu=>zJ w cells t j u hu,by have:=hp.lt;omega⟩
end
theorem zCY (cs:List Tr.C) (fs vars:List BA) (l:List Tr.E) (x:Tr.E) (t:Nat):Ck.zAA cs fs vars (l++ [x]) t=(Ck.zAA cs fs vars l t||Ck.faultE cs fs vars x t):=by
 induction l with
 |nil=>simp [Ck.zAA]
 |cons y r ih=>rw [List.cons_append,Ck.zAA,Ck.zAA,ih,Bool.or_assoc]
theorem zJN (cs:List Tr.C) (fs vars:List BA) (k o i:Int) (nm:BA) (a:Bool) (l:List Tr.E) (t:Nat):Ck.faultE cs fs vars (.mk k o i nm a l) t=(Ck.ownE cs fs vars k nm a l t||Ck.zAA cs fs vars l t):=by rw [Ck.faultE]
theorem zDL {l:List Tr.E} {j:Nat} {x:Tr.E} (h:Tr.zT l=true) (hj:l[j]? =some x):Tr.zE x=true:=by
 rw [Tr.zCN,List.all_eq_true] at h;exact h x (kM hj)
theorem okE_4 {o i:Int} {nm:BA} {a:Bool} {n:Nat} (h:Tr.okE 4 o i nm a n=true):n=1:=by
 have e:Tr.okE 4 o i nm a n=(!(decide ((4:Int)≠0/\i≠0)||decide ((4:Int)≠10/\o≠0)||(decide ((4:Int)≠5) && a)) && (decide (n=1) && Tr.varB nm)):=rfl;rw [e,kW,kW] at h;exact of_decide_eq_true h.2.1
theorem okE_5 {o i:Int} {nm:BA} {a:Bool} {n:Nat} (h:Tr.okE 5 o i nm a n=true):a=true->0<n:=by
 rintro rfl;have e:Tr.okE 5 o i nm true n=(!(decide ((5:Int)≠0/\i≠0)||decide ((5:Int)≠10/\o≠0)||(decide ((5:Int)≠5) && true)) && (Tr.clsB nm && (!true||decide (0<n)))):=rfl;rw [e,kW,kW] at h;have h3:=h.2.2;rw [Bool.not_true,Bool.false_or] at h3;exact of_decide_eq_true h3
theorem zD4 {cs:List Tr.C} {fs vars:List BA} {nm:BA} {a:Bool} {l:List Tr.E} {q:Nat} {cc:Tr.C} {t:Nat} (h:Ck.zAB cs nm=some q) (hq:cs[q]? =some cc):
 Ck.ownE cs fs vars 5 nm a l t=(t == 9 && decide (((cc.fields.length:Nat):Int)<((l.length:Nat):Int) - (if a then 1 else 0))):=by
 unfold Ck.ownE;rw [kC (by decide),kC (by decide),kD rfl,h];simp only [];rw [hq]
 rfl
theorem zEK {a b:Value} {q1 q2:Addr} {w:World} {P bx B n:Nat} {cv:Value} {c:Tr.C} {fv mv:Value} {vars:List BA} {cells:Array Value} {f:Nat->Bool} {W W':World} (h:W.cell? q1=some a/\W.cell? q2=some b/\Hid (ESt w P bx B n cv c fv mv vars cells f W)) (hb:Below W.heap.size W W'):
 W'.cell? q1=some a/\W'.cell? q2=some b/\Hid (ESt w P bx B n cv c fv mv vars cells f W'):=
 ⟨(zL (r:=none) hb).cell h.1 (by simp),(zL (r:=none) hb).cell h.2.1 (by simp),h.2.2.keep hb⟩
theorem zJR {p q:Prop} {w:World} {P bx B n:Nat} {cv:Value} {c:Tr.C} {fv mv:Value} {vars:List BA} {cells:Array Value} {f:Nat->Bool} {W:World} (h:p/\q/\Hid (ESt w P bx B n cv c fv mv vars cells f W)):ESt w P bx B n cv c fv mv vars cells f W:=h.2.2.out
theorem zDF {p q:Prop} {w0 w:World} {P bx B n:Nat} {cv:Value} {c:Tr.C} {fv mv:Value} {vars:List BA} {cells:Array Value} {f:Nat->Bool} {W:World} (hb:Below w0.heap.size w0 w) (hP:w0.heap.size<=P) (h:p/\q/\Hid (ESt w P bx B n cv c fv mv vars cells f W)):Below w0.heap.size w0 W:=zO hb h.2.2.grown hP
def ExprOk (w0:World) (cs:List Tr.C) (cv:Value) (c:Tr.C) (fv mv:Value) (P d:Nat):Prop:=
 ∀(e:Tr.E) (a:Value) (w:World) (f:Nat->Bool) (B n:Nat) (vars:List BA),e.deep<=d->Tr.zE e=true->BdE e->SlE w0 a e.args->Below w0.heap.size w0 w->PlaceAt w P cv c fv mv f->SetB w B n vars->
  Calls prog 128 #[.pointer (some ⟨P,0,none⟩),zK e a,.map (some B)] w fun r w'=>r= .returned (.tuple #[])/\PlaceAt w' P cv c fv mv (fun t=>f t||Ck.faultE cs c.fields vars e t)/\w.grownBy w' (some P)
theorem expr_any (w0:World) (cs:List Tr.C) (cv:Value) (hcs:SlC w0 cv cs) (c:Tr.C) (fv mv:Value) (hfv:SlStr w0 fv c.fields) (P:Nat) (hP0:w0.heap.size<=P):∀(d:Nat),ExprOk w0 cs cv c fv mv P d:=by
 intro d
 induction d with
 |zero=>intro e a w f B n vars hd;have:=e.deep_pos;omega
 |succ d ih=>
  intro e a w f B n vars hd hvd hbd hS hb hP hB;obtain⟨k,o,i,nm,at_,l⟩:=e;have hnm:nm.size<=maxLen:=hbd.name;have hk1:=hbd.kind;have hS':SlE w0 a l:=hS;obtain⟨p,c5,rfl,hcap⟩:=hS'.form;have hll:=hS'.len;unfold maxLen at hll;obtain⟨pv,cpv,rfl⟩:=hcs.form;obtain⟨pf,cf,rfl⟩:=hfv.form;have hcl:=hcs.len;unfold maxLen at hcl;rw [Tr.zE,kW] at hvd;obtain⟨hvs,hok⟩:=hvd;obtain⟨N,hN⟩:∃N,l.length=N:=⟨_,rfl⟩;rw [hN] at hS' hll hok;obtain⟨CN,hCN⟩:∃N,cs.length=N:=⟨_,rfl⟩;obtain⟨FN,hFN⟩:∃N,c.fields.length=N:=⟨_,rfl⟩;have HE0:=zh (ESt.made hP hB #[.int .i64 k,.int .i64 o,.int .i64 i,.string nm,.bool at_,.slice p N c5] 37);have HS:=zh hS';have HN:=zh hN;have HD:=zh hd;have HIH:=zh ih;have HVS:=zh hvs;have HBW:=zh hb;have HCS:=zh hcs;have HFV:=zh hfv;have HOK:=zh hok;rw [hCN] at HCS HE0 hcl;rw [hFN] at HFV HE0;rw [hCN,hFN] at HIH;have HCN:=zh hCN;unfold zK;simp only [Tr.E.kind,Tr.E.op,Tr.E.int,Tr.E.name,Tr.E.at_];rw [hN,hCN,hFN];have KA:Hid (∀(W:World) (q:Nat) (z:Int) (b:Bool) (g:Nat->Bool),z=q->q<13->PlaceAt W P (.slice pv CN cpv) c (.slice pf FN cf) mv g->Calls prog 84 #[.pointer (some ⟨P,0,none⟩),.int .i64 z,.bool b] W fun e w'=>e= .returned (.tuple #[])/\PlaceAt w' P (.slice pv CN cpv) c (.slice pf FN cf) mv (fun t=>g t||(t == q && b))/\W.grownBy w' (some P)):=fun W q z b g hz hq hp=>by rw [hz];exact zBU P q b W _ c _ mv g hq hp
  have KC:Hid (∀(W:World),Below w0.heap.size w0 W->Calls prog 129 #[.slice pf FN cf,.string nm] W fun e w'=>e= .returned (.bool (Ck.hasS c.fields nm))/\w'=W):=fun W hb=>zGT _ _ _ _ (HFV.keep hb)
  have KCL:Hid (∀(W:World),Below w0.heap.size w0 W->Calls prog 83 #[.agg #[.slice pv CN cpv],.string nm] W fun e w'=>e= .returned (.tuple #[.int .i64 ((Ck.zAB cs nm).getD 0:Nat),.bool (Ck.zAB cs nm).isSome])/\Below W.heap.size W w'):=fun W hb=>zIJ nm cs _ W (HCS.keep hb)
  have hB1:=zh (hb.trans ((zD w (.cells #[.int .i64 k,.int .i64 o,.int .i64 i,.string nm,.bool at_,.slice p N c5] 37)).mono hb.size));obtain⟨w1,hw1⟩:∃w1,w1=w.alloc (.cells #[.int .i64 k,.int .i64 o,.int .i64 i,.string nm,.bool at_,.slice p N c5] 37):=⟨_,rfl⟩;rw [<-hw1] at HE0 hB1;have HW1:=zh hw1;clear hbd hS hS' hcs hfv hN hd ih hvs hb hCN hFN hw1 hP hB hok;have hOut:Hid (∀(F1:Nat->Bool) (W:World),(∀t,F1 t=(f t||Ck.ownE cs c.fields vars k nm at_ l t))->ESt w P w.heap.size B n (.slice pv CN cpv) c (.slice pf FN cf) mv vars #[.int .i64 k,.int .i64 o,.int .i64 i,.string nm,.bool at_,.slice p N c5] F1 W->ESt w P w.heap.size B n (.slice pv CN cpv) c (.slice pf FN cf) mv vars #[.int .i64 k,.int .i64 o,.int .i64 i,.string nm,.bool at_,.slice p N c5] (fun t=>f t||Ck.ownE cs c.fields vars k nm at_ l t) W):=fun F1 W h1 h2=>h2.congr h1
  go_in;go_upto_region 1 with fail;rw [<-HW1.out];clear HW1;have b0:=HE0.box 0 _ rfl
  go_upto_block 0 with fail
  go_cut [6,7,8] (fun _ _ _ wx=>ESt w P w.heap.size B n (.slice pv CN cpv) c (.slice pf FN cf) mv vars #[.int .i64 k,.int .i64 o,.int .i64 i,.string nm,.bool at_,.slice p N c5] (fun t=>f t||Ck.ownE cs c.fields vars k nm at_ l t) wx)
  case first=>
   by_cases h3:k=3
   ·subst h3;have b3:=HE0.box 3 _ rfl;have hlk:=HE0.set.look nm hnm;clear hk1;go_wp2_with fail;refine(KA _ 7 7 _ _ rfl (by omega) HE0.place).mono ?_;rintro e w2 ⟨rfl,hP2,hg2⟩;have HL0:=zh (HE0.next hP2 hg2);clear hP2 hg2 hlk b0 b3;go_wp2;go_meet;exact hOut _ _ (fun t=>by unfold Ck.ownE;rw [kD rfl]) HL0
   ·by_cases h4:k=4
    ·subst h4;have hN1:=okE_4 HOK;obtain⟨x0,hx0⟩:∃x,l[0]? =some x:=⟨_,kB (by rw [HN.out];omega)⟩;obtain⟨b,oo,aa,rfl,hblt,hc,hbd,hsl⟩:=HS.get hx0;rw [Nat.zero_mul,Nat.add_zero] at hc;have y0:=(hc.keep hB1).1;have hhead:Hid (Ck.zA9 l=x0.kind):=by
      show _=_
      cases hl:l with
      |nil=>rw [hl] at hx0;cases hx0
      |cons z r=>rw [hl] at hx0;cases hx0;rfl
     have hN0:0<N:=(by omega);clear hx0 hc hbd hsl hk1 h3 hN1;have b3:=HE0.box 3 _ rfl;have b5:=HE0.box 5 _ rfl;have q3:=HE0.place.cell (j:=3) (u:= .slice pf FN cf) rfl;by_cases hth:x0.kind=2
     ·have hth1:(x0.kind == 2)=true:=kX.2 hth;have HTH:=zh hth;clear hth;go_wp2_with fail;refine wp_region_still_tail 18 (by kernel_rfl) (by kernel_rfl) ?_;simp only [List.take_succ_cons,List.take_zero,List.drop_succ_cons,List.drop_zero]
      repeat still_step
      still_call (KC w1.drew hB1.drew)
      repeat still_step
      refine wpStill_nil ?_;change wpList _ _ _ _ _ w1.drew;have HEd:=zh HE0.drew;have hBd:=zh hB1.drew;obtain⟨wd,hwd⟩:∃wd,wd=w1.drew:=⟨_,rfl⟩;rw [<-hwd] at HEd hBd |-;clear hwd;go_wp2_with fail;refine(KA _ 10 10 _ _ rfl (by omega) HEd.place).mono ?_;rintro e w2 ⟨rfl,hP2,hg2⟩;have HL0:=zh (HEd.next hP2 hg2);clear hP2 hg2 b0 b3 b5 y0 q3 hth1;go_wp2;go_meet;exact hOut _ _ (fun t=>by unfold Ck.ownE;rw [kC (by decide),kD rfl,hhead.out,kS HTH.out,Bool.and_true]) HL0
     ·have HTH:=zh hth;clear hth;go_wp2_with fail;refine wp_region_still_tail 18 (by kernel_rfl) (by kernel_rfl) ?_;simp only [List.take_succ_cons,List.take_zero,List.drop_succ_cons,List.drop_zero]
      iterate 8 still_step
      iterate 9 (refine wpStill_step (fun K hK=>?_);go_simp;rw [kC HTH.out];refine hK _ ?_;clear hK K)
      have hth1:(x0.kind == 2)=false:=kA.2 HTH;still_step;refine wpStill_nil ?_;change wpList _ _ _ _ _ w1.drew;have HEd:=zh HE0.drew;have hBd:=zh hB1.drew;obtain⟨wd,hwd⟩:∃wd,wd=w1.drew:=⟨_,rfl⟩;rw [<-hwd] at HEd hBd |-;clear hwd;go_wp2_with fail;refine(KA _ 10 10 _ _ rfl (by omega) HEd.place).mono ?_;rintro e w2 ⟨rfl,hP2,hg2⟩;have HL0:=zh (HEd.next hP2 hg2);clear hP2 hg2 b0 b3 b5 y0 q3 hth1;go_wp2;go_meet;exact hOut _ _ (fun t=>by unfold Ck.ownE;rw [kC (by decide),kD rfl,hhead.out,kE HTH.out,Bool.and_false,Bool.false_and]) HL0
    ·by_cases h5:k=5
     ·subst h5;have hat1:at_=true->0<N:=okE_5 HOK;clear hk1 h3 h4;have b3:=HE0.box 3 _ rfl;have b4:=HE0.box 4 _ rfl;have b5:=HE0.box 5 _ rfl;have q0:=HE0.place.cell (j:=0) (u:= .slice pv CN cpv) rfl;cases hcl:Ck.zAB cs nm with
      |none=>
       rw [hcl] at KCL;simp only [Option.getD_none,Option.isSome_none] at KCL;have HCL:=zh hcl;clear hcl;cases at_
       ·skip;clear hat1;go_wp2_with fail
        go_region_held3 (fun w'=>w'.cell? ⟨P,0,none⟩=some (.slice pv CN cpv)/\w'.cell? ⟨w.heap.size,3,none⟩=some (.string nm)/\Hid (ESt w P w.heap.size B n (.slice pv CN cpv) c (.slice pf FN cf) mv vars #[.int .i64 5,.int .i64 o,.int .i64 i,.string nm,.bool false,.slice p N c5] f w')) (first|exact zEK (by assumption) hb|exact ⟨q0,b3,HE0⟩|exact ⟨q0,b3,zh HE0.out.drew⟩|go_keep) (first|(go_at_call 83;(with_reducible refine(KCL.out _ (zDF HBW.out hP0 (by assumption))).mono ?_);rintro e w' ⟨rfl,hb⟩))
        have HL0:=zh (zJR (by assumption));clear b0 b3 b4 b5 q0;go_wp2_with fail;refine(KA _ 8 8 _ _ rfl (by omega) HL0.place).mono ?_;rintro e w3 ⟨rfl,hP3,hg3⟩;have HL1:=zh (HL0.next hP3 hg3);clear hP3 hg3;go_wp2_with fail;refine(KA _ 9 9 _ _ rfl (by omega) HL1.place).mono ?_;rintro e w4 ⟨rfl,hP4,hg4⟩;have HL2:=zh (HL1.next hP4 hg4);clear hP4 hg4;go_wp2;go_meet;exact hOut _ _ (fun t=>by unfold Ck.ownE;rw [kC (by decide),kC (by decide),kD rfl,HCL.out];simp) HL2
       ·skip;have hat2:=hat1 rfl;clear hat1;go_wp2_with fail
        go_region_held3 (fun w'=>w'.cell? ⟨P,0,none⟩=some (.slice pv CN cpv)/\w'.cell? ⟨w.heap.size,3,none⟩=some (.string nm)/\Hid (ESt w P w.heap.size B n (.slice pv CN cpv) c (.slice pf FN cf) mv vars #[.int .i64 5,.int .i64 o,.int .i64 i,.string nm,.bool true,.slice p N c5] f w')) (first|exact zEK (by assumption) hb|exact ⟨q0,b3,HE0⟩|exact ⟨q0,b3,zh HE0.out.drew⟩|go_keep) (first|(go_at_call 83;(with_reducible refine(KCL.out _ (zDF HBW.out hP0 (by assumption))).mono ?_);rintro e w' ⟨rfl,hb⟩))
        have HL0:=zh (zJR (by assumption));clear b0 b3 b4 b5 q0;go_wp2_with fail;refine(KA _ 8 8 _ _ rfl (by omega) HL0.place).mono ?_;rintro e w3 ⟨rfl,hP3,hg3⟩;have HL1:=zh (HL0.next hP3 hg3);clear hP3 hg3;go_wp2_with fail;refine(KA _ 9 9 _ _ rfl (by omega) HL1.place).mono ?_;rintro e w4 ⟨rfl,hP4,hg4⟩;have HL2:=zh (HL1.next hP4 hg4);clear hP4 hg4;go_wp2;go_meet;exact hOut _ _ (fun t=>by unfold Ck.ownE;rw [kC (by decide),kC (by decide),kD rfl,HCL.out];simp) HL2
      |some q=>
       rw [hcl] at KCL;simp only [Option.getD_some,Option.isSome_some] at KCL;have hql:=zGE hcl;obtain⟨cc,hq⟩:∃x,cs[q]? =some x:=⟨_,kB hql⟩;obtain⟨b,oo,vf,vm,rfl,hblt,hc,hnmc,hsf,hsm⟩:=HCS.get hq;obtain⟨pf2,cf2,rfl⟩:=hsf.form;obtain⟨FL,hFL⟩:∃N,cc.fields.length=N:=⟨_,rfl⟩;have HC2:=zh hc.2.2.1;rw [hFL] at HC2;have hfl:=hsf.len;unfold maxLen at hfl;rw [hFL] at hfl;have HFL:=zh hFL;have HCL:=zh hcl;have hi:=zh hq;rw [HCN.out] at hql;clear hcl hq hc hnmc hsf hsm hFL;cases at_
       ·skip;clear hat1;by_cases hgt:FL<N
        ·skip;go_wp2_with fail
         go_region_held3 (fun w'=>w'.cell? ⟨P,0,none⟩=some (.slice (some ⟨b,oo,none⟩) CN cpv)/\w'.cell? ⟨w.heap.size,3,none⟩=some (.string nm)/\Hid (ESt w P w.heap.size B n (.slice (some ⟨b,oo,none⟩) CN cpv) c (.slice pf FN cf) mv vars #[.int .i64 5,.int .i64 o,.int .i64 i,.string nm,.bool false,.slice p N c5] f w')) (first|exact zEK (by assumption) hb|exact ⟨q0,b3,HE0⟩|exact ⟨q0,b3,zh HE0.out.drew⟩|go_keep) (first|(go_at_call 83;(with_reducible refine(KCL.out _ (zDF HBW.out hP0 (by assumption))).mono ?_);rintro e w' ⟨rfl,hb⟩))
         have HL0:=zh (zJR (by assumption));clear b0 b3 b4 b5 q0;go_wp2_with fail;refine(KA _ 8 8 _ _ rfl (by omega) HL0.place).mono ?_;rintro e w3 ⟨rfl,hP3,hg3⟩;have HL1:=zh (HL0.next hP3 hg3);clear hP3 hg3;have HB3:=zh (zO HBW HL1.grown hP0);have q0:=HL1.place.cell (j:=0) (u:= .slice (some ⟨b,oo,none⟩) CN cpv) rfl;have z2:=zA HB3 HC2;go_wp2_with fail;refine(KA _ 9 9 _ _ rfl (by omega) HL1.place).mono ?_;rintro e w4 ⟨rfl,hP4,hg4⟩;have HL2:=zh (HL1.next hP4 hg4);clear hP4 hg4 q0 z2;go_wp2;go_meet;exact hOut _ _ (fun t=>by rw [zD4 HCL.out hi.out,HFL.out,HN.out,kC (by decide),kS (p:=(FL:Int)<(N:Int) - 0) (by omega)];simp) HL2
        ·skip;go_wp2_with fail
         go_region_held3 (fun w'=>w'.cell? ⟨P,0,none⟩=some (.slice (some ⟨b,oo,none⟩) CN cpv)/\w'.cell? ⟨w.heap.size,3,none⟩=some (.string nm)/\Hid (ESt w P w.heap.size B n (.slice (some ⟨b,oo,none⟩) CN cpv) c (.slice pf FN cf) mv vars #[.int .i64 5,.int .i64 o,.int .i64 i,.string nm,.bool false,.slice p N c5] f w')) (first|exact zEK (by assumption) hb|exact ⟨q0,b3,HE0⟩|exact ⟨q0,b3,zh HE0.out.drew⟩|go_keep) (first|(go_at_call 83;(with_reducible refine(KCL.out _ (zDF HBW.out hP0 (by assumption))).mono ?_);rintro e w' ⟨rfl,hb⟩))
         have HL0:=zh (zJR (by assumption));clear b0 b3 b4 b5 q0;go_wp2_with fail;refine(KA _ 8 8 _ _ rfl (by omega) HL0.place).mono ?_;rintro e w3 ⟨rfl,hP3,hg3⟩;have HL1:=zh (HL0.next hP3 hg3);clear hP3 hg3;have HB3:=zh (zO HBW HL1.grown hP0);have q0:=HL1.place.cell (j:=0) (u:= .slice (some ⟨b,oo,none⟩) CN cpv) rfl;have z2:=zA HB3 HC2;go_wp2_with fail;refine(KA _ 9 9 _ _ rfl (by omega) HL1.place).mono ?_;rintro e w4 ⟨rfl,hP4,hg4⟩;have HL2:=zh (HL1.next hP4 hg4);clear hP4 hg4 q0 z2;go_wp2;go_meet;exact hOut _ _ (fun t=>by rw [zD4 HCL.out hi.out,HFL.out,HN.out,kC (by decide),kE (p:=(FL:Int)<(N:Int) - 0) (by omega)];simp) HL2
       ·skip;have hat2:=hat1 rfl;clear hat1;by_cases hgt:FL+1<N
        ·skip;go_wp2_with fail
         go_region_held3 (fun w'=>w'.cell? ⟨P,0,none⟩=some (.slice (some ⟨b,oo,none⟩) CN cpv)/\w'.cell? ⟨w.heap.size,3,none⟩=some (.string nm)/\Hid (ESt w P w.heap.size B n (.slice (some ⟨b,oo,none⟩) CN cpv) c (.slice pf FN cf) mv vars #[.int .i64 5,.int .i64 o,.int .i64 i,.string nm,.bool true,.slice p N c5] f w')) (first|exact zEK (by assumption) hb|exact ⟨q0,b3,HE0⟩|exact ⟨q0,b3,zh HE0.out.drew⟩|go_keep) (first|(go_at_call 83;(with_reducible refine(KCL.out _ (zDF HBW.out hP0 (by assumption))).mono ?_);rintro e w' ⟨rfl,hb⟩))
         have HL0:=zh (zJR (by assumption));clear b0 b3 b4 b5 q0;go_wp2_with fail;refine(KA _ 8 8 _ _ rfl (by omega) HL0.place).mono ?_;rintro e w3 ⟨rfl,hP3,hg3⟩;have HL1:=zh (HL0.next hP3 hg3);clear hP3 hg3;have HB3:=zh (zO HBW HL1.grown hP0);have q0:=HL1.place.cell (j:=0) (u:= .slice (some ⟨b,oo,none⟩) CN cpv) rfl;have z2:=zA HB3 HC2;go_wp2_with fail;refine(KA _ 9 9 _ _ rfl (by omega) HL1.place).mono ?_;rintro e w4 ⟨rfl,hP4,hg4⟩;have HL2:=zh (HL1.next hP4 hg4);clear hP4 hg4 q0 z2;go_wp2;go_meet;exact hOut _ _ (fun t=>by rw [zD4 HCL.out hi.out,HFL.out,HN.out,kD rfl,kS (p:=(FL:Int)<(N:Int) - 1) (by omega)];simp) HL2
        ·skip;go_wp2_with fail
         go_region_held3 (fun w'=>w'.cell? ⟨P,0,none⟩=some (.slice (some ⟨b,oo,none⟩) CN cpv)/\w'.cell? ⟨w.heap.size,3,none⟩=some (.string nm)/\Hid (ESt w P w.heap.size B n (.slice (some ⟨b,oo,none⟩) CN cpv) c (.slice pf FN cf) mv vars #[.int .i64 5,.int .i64 o,.int .i64 i,.string nm,.bool true,.slice p N c5] f w')) (first|exact zEK (by assumption) hb|exact ⟨q0,b3,HE0⟩|exact ⟨q0,b3,zh HE0.out.drew⟩|go_keep) (first|(go_at_call 83;(with_reducible refine(KCL.out _ (zDF HBW.out hP0 (by assumption))).mono ?_);rintro e w' ⟨rfl,hb⟩))
         have HL0:=zh (zJR (by assumption));clear b0 b3 b4 b5 q0;go_wp2_with fail;refine(KA _ 8 8 _ _ rfl (by omega) HL0.place).mono ?_;rintro e w3 ⟨rfl,hP3,hg3⟩;have HL1:=zh (HL0.next hP3 hg3);clear hP3 hg3;have HB3:=zh (zO HBW HL1.grown hP0);have q0:=HL1.place.cell (j:=0) (u:= .slice (some ⟨b,oo,none⟩) CN cpv) rfl;have z2:=zA HB3 HC2;go_wp2_with fail;refine(KA _ 9 9 _ _ rfl (by omega) HL1.place).mono ?_;rintro e w4 ⟨rfl,hP4,hg4⟩;have HL2:=zh (HL1.next hP4 hg4);clear hP4 hg4 q0 z2;go_wp2;go_meet;exact hOut _ _ (fun t=>by rw [zD4 HCL.out hi.out,HFL.out,HN.out,kD rfl,kE (p:=(FL:Int)<(N:Int) - 1) (by omega)];simp) HL2
     ·have h3b:(k == 3)=false:=kA.2 h3;have h4b:(k == 4)=false:=kA.2 h4;have h5b:(k == 5)=false:=kA.2 h5;have hown:Hid (∀t,f t=(f t||Ck.ownE cs c.fields vars k nm at_ l t)):=fun t=>by unfold Ck.ownE;rw [kC h3,kC h4,kC h5,Bool.or_false]
      clear h3 h4 h5 hk1;go_wp2;go_meet;exact hOut _ _ hown HE0
  case rest=>
   have HL:=zh hcut;clear hcut HE0 hOut b0 KC KCL;have b5:=HL.box 5 _ rfl;go_wp2_with fail
   go_loopw [86] (fun s86 wr=>∃j:Nat,s86= .int .i64 j/\j<=N/\ESt w P w.heap.size B n (.slice pv CN cpv) c (.slice pf FN cf) mv vars #[.int .i64 k,.int .i64 o,.int .i64 i,.string nm,.bool at_,.slice p N c5] (fun t=>(f t||Ck.ownE cs c.fields vars k nm at_ l t)||Ck.zAA cs c.fields vars (l.take j) t) wr) (fun s86 _=>N -(intOf s86).toNat)
   case atStart=>exact ⟨0,rfl,kO _,HL.congr (fun t=>by rw [List.take_zero,Ck.zAA,Bool.or_false])⟩
   case round=>
    obtain⟨j,rfl,hj,hst⟩:=hrel;have HST:=zh hst;clear hst;have HBR:=zh (zO HBW HST.grown hP0);by_cases hlt:j<N
    ·obtain⟨x,hx⟩:∃x,l[j]? =some x:=⟨_,kB (by rw [HN.out];exact hlt)⟩;obtain⟨b,oo,aa,rfl,hblt,hc,hbd,hsl⟩:=HS.get hx;obtain⟨x0,x1,x2,x3,x4,x5⟩:=hc.keep HBR;obtain⟨pa,ca,rfl,_⟩:=hsl.form;obtain⟨AN,hAN⟩:∃N,x.args.length=N:=⟨_,rfl⟩;rw [hAN] at hsl x5;have hbx:=zD wr (.cells #[.int .i64 x.kind,.int .i64 x.op,.int .i64 x.int,.string x.name,.bool x.at_,.slice pa AN ca] 37);have hcall:=HIH x (.slice pa AN ca) _ _ B n vars (Tr.E.deep_args HD (e:= .mk k o i nm at_ l) hx) (zDL HVS hx) hbd hsl (HBR.trans (hbx.mono HBR.size)) (HST.place.keep hbx) (HST.set.keep hbx);unfold zK at hcall;have HX:=zh hx;have HBX:=zh hbx;have HCALL:=zh hcall;clear hx hbd hsl hc hAN hbx hcall;go_wp2_with fail;refine HCALL.mono ?_;rintro e w2 ⟨rfl,hP2,hg2⟩;have HN2:=zh ((HST.keep HBX).next hP2 hg2);clear hP2 hg2;go_wp2_with fail;go_roundw
     case rel=>exact ⟨j+1,by go_num,by omega,HN2.congr (fun t=>by rw [zA3 HX.out,zCY,Bool.or_assoc])⟩
     case measure=>simp [intOf];omega
    ·go_wp2_with fail;go_end0;have hfull:l.take j=l:=kR (by rw [HN.out];omega);refine⟨rfl,HST.place.congr (fun t=>?_),HST.grown⟩;rw [hfull,zJN,Bool.or_assoc]
end Go.Proofs.YtcnmfcgmnkncaaaGreatDoor
