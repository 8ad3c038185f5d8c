/-
  Several texts in one: CoLocal, CoJump, CoExprS.
-/
import Derived.Test.YtcnmfcgmnkncaaaGreatDoorJ8
import Derived.RangeFuncNested
import Derived.RangeFuncBound
import Derived.RangeFuncCalls
import Derived.RangeFuncLeaves
import Derived.RangeFuncBox
import Derived.Shelf.Abstract
import Derived.Shelf.RegionOpen
import Derived.WalkKit
import Derived.OwnWalkIn
import Derived.TacticsInMore
import Derived.LoopNIn
import Derived.LoopIn
namespace Go.Proofs.YtcnmfcgmnkncaaaGreatDoor
namespace Cw
open Go.RowKit Go.Maps Pw Go.Shelf
attribute [local go_sem] Oper.semAt_some
def upto {α:Type} (f:Nat→α) (k:Nat):List α:=(List.range k).map f
theorem zF4 {α:Type} (f:Nat→α) (k:Nat):upto f (k+1)=upto f k++ [f k]:=by simp [upto,List.range_succ]
theorem zKZ {α:Type} (f:Nat→α) (k:Nat):(upto f k).length=k:=by simp [upto]
set_option maxRecDepth 100000 in
set_option maxHeartbeats 4000000 in
theorem zSP (F:Fence) (n:Nat) (h7:F.fn 188) (hro:F.round=none) (hn:1≤n) (l Bs n₀ b off cap:Nat) (zs:List (ByteArray × Nat)) (hreach:zs.length≤1000000) (hb:b<n₀) (J Jx:List (Nat × (ByteArray × Nat))→World→Prop)
 (hY:∀pre x W,J pre W→pre.length<zs.length→YieldAt F (n -1) Tryz.prog l ((fun x:Nat × (ByteArray × Nat)=> #[Value.int .i64 (x.1:Int),.agg #[.string x.2.1,.int .i64 (x.2.2:Nat)]]) x) W fun e W'=>
  (e= .returned (.bool true)∧J (pre++ [x]) W'∧Below n₀ W W')∨(e= .returned (.bool false)∧Jx (pre++ [x]) W'))
 (W:World) (hBn:Bs<n₀) (hBs:W.cell? ⟨Bs,0,none⟩=some (.slice (some ⟨b,off,none⟩) zs.length cap)) (hc:∀j,j<zs.length→W.cell? ⟨b,off+j*2,none⟩=some (.string (zs[j]?.getD (⟨⟨#[]⟩,0⟩:ByteArray × Nat)).1)∧W.cell? ⟨b,off+j*2+1,none⟩=some (.int .i64 ((zs[j]?.getD (⟨⟨#[]⟩,0⟩:ByteArray × Nat)).2:Nat))) (h0:J [] W):
 CallsIn F n Tryz.prog 188 #[.func (.yield l) #[] #[],.pointer (some ⟨Bs,0,none⟩)] W fun e W'=>(∃v,e= .returned v)∧
  ((∃ys,ys=upto (fun j=>(zs.length -1 -j,zs[zs.length -1 -j]?.getD (⟨⟨#[]⟩,0⟩:ByteArray × Nat))) zs.length∧J ys W')∨(∃pre,(∃k,k≤zs.length∧pre=upto (fun j=>(zs.length -1 -j,zs[zs.length -1 -j]?.getD (⟨⟨#[]⟩,0⟩:ByteArray × Nat))) k)∧Jx pre W')):=by
 obtain⟨N,hN⟩:∃q,zs.length=q:=⟨_,rfl⟩
 rw [hN] at hY hBs hc hreach ⊢
 clear hN
 refine callsIn_of_wp Tryz.func188 rfl h7 ?_ hro
 simp only [Tryz.ntmps188,List.size_toArray,List.length_cons,List.length_nil,Nat.reduceAdd,Nat.reduceSub,Array.replicate_succ,Array.replicate_zero,List.push_toArray,List.append_toArray,List.nil_append,List.cons_append]
 gi_wp2
 gi_loopw [3] (fun i wr=>∃k:Nat,k≤N∧((∃m:Nat,i= .int .i64 m∧m+k+1=N)∨(i= .int .i64 (-1)∧k=N))∧J (upto (fun j=>(N -1 -j,zs[N -1 -j]?.getD (⟨⟨#[]⟩,0⟩:ByteArray × Nat))) k) wr∧Below n₀ W wr)
  (fun i _=>(intOf i+1).toNat)
 case atStart=>
  refine⟨0,Nat.zero_le _,?_,h0,Below.refl _ _⟩
  cases N with
  |zero=>exact .inr ⟨by go_num,rfl⟩
  |succ N=>exact .inl ⟨N,by go_num,rfl⟩
 case round=>
  obtain⟨k,hk,hi,hJs,hnx⟩:=hrel
  rcases hi with ⟨m,rfl,hm⟩|⟨rfl,rfl⟩
  ·have hmN:m<N:=by omega
   obtain⟨hc1,hc2⟩:=hc m hmN
   have hx1:=(hnx.cell (p:=⟨b,off+m*2,none⟩) hb).trans hc1
   have hx2:=(hnx.cell (p:=⟨b,off+m*2+1,none⟩) hb).trans hc2
   have hxs:=(hnx.cell (p:=⟨Bs,0,none⟩) hBn).trans hBs
   have h0m:(0:Int)≤(m:Int):=by omega
   have h1m:(m:Int)<(N:Int):=by omega
   obtain⟨fn,tmps,assign,body,hy,hR⟩:=hY _ (m,zs[m]?.getD (⟨⟨#[]⟩,0⟩:ByteArray × Nat)) wr hJs (by rw [zKZ];omega)
   dsimp only at hy
   have hfm:(fun j=>(N -1 -j,zs[N -1 -j]?.getD (⟨⟨#[]⟩,0⟩:ByteArray × Nat))) k=(m,zs[m]?.getD (⟨⟨#[]⟩,0⟩:ByteArray × Nat)):=by
    have e:N -1 -k=m:=by omega
    show(N -1 -k,zs[N -1 -k]?.getD (⟨⟨#[]⟩,0⟩:ByteArray × Nat))=_
    rw [e]
   gi_wp2
   refine hR.mono ?_
   rintro e W3 (⟨rfl,hJ3,hk3⟩|⟨rfl,hJx3⟩)
   ·gi_wp2
    go_roundw
    case rel=>
     refine⟨k+1,by omega,?_,by rw [zF4,hfm];exact hJ3,hnx.trans hk3⟩
     cases m with
     |zero=>exact .inr ⟨by go_num,by omega⟩
     |succ m=>exact .inl ⟨m,by go_num,by omega⟩
    case measure=>first|(simp [intOf];done)|(simp [intOf];omega)
   ·gi_wp2
    refine bodyPost_ret (results_none rfl _ _ _) rfl ?_
    exact⟨⟨_,rfl⟩,.inr ⟨_,⟨k+1,by omega,by rw [zF4,hfm]⟩,hJx3⟩⟩
  ·gi_wp2
   go_end0
   exact⟨⟨_,rfl⟩,.inl ⟨_,rfl,hJs⟩⟩
set_option maxRecDepth 100000 in
set_option maxHeartbeats 1000000 in
theorem zKK (F:Fence) (n:Nat) (h7:F.fn 188) (hro:F.round=none) (l Bs c:Nat) (p:Option Addr) (J:List (Nat × (ByteArray × Nat))→World→Prop) (W:World) (hBs:W.cell? ⟨Bs,0,none⟩=some (.slice p 0 c)) (h0:J [] W):
 CallsIn F n Tryz.prog 188 #[.func (.yield l) #[] #[],.pointer (some ⟨Bs,0,none⟩)] W fun e W'=>(∃v,e= .returned v)∧J [] W':=by
 refine callsIn_of_wp Tryz.func188 rfl h7 ?_ hro
 simp only [Tryz.ntmps188,List.size_toArray,List.length_cons,List.length_nil,Nat.reduceAdd,Nat.reduceSub,Array.replicate_succ,Array.replicate_zero,List.push_toArray,List.append_toArray,List.nil_append,List.cons_append]
 gi_wp2
 gi_loopw [3] (fun i wr=>i= .int .i64 (-1)∧J [] wr) (fun _ _=>0)
 case atStart=>exact ⟨by go_num,h0⟩
 case round=>
  obtain⟨rfl,hJs⟩:=hrel
  gi_wp2
  go_end0
  exact⟨⟨_,rfl⟩,hJs⟩
set_option maxHeartbeats 1000000 in
theorem zUE (F:Fence) (n:Nat) (h5:F.fn 171) (hro:F.round=none) (a:Option Addr) (len cap:Nat) (w:World):
 CallsIn F n Tryz.prog 171 #[.slice a len cap] w fun e w'=>e= .returned (.func (.func 188) #[] #[.pointer (some ⟨w.heap.size,0,none⟩)])∧w'=w.alloc (.cells #[.slice a len cap] 102):=by
 refine callsIn_of_wp Tryz.func171 rfl h5 ?_ hro
 simp only [Tryz.ntmps171,List.size_toArray,List.length_cons,List.length_nil,Nat.reduceAdd,Nat.reduceSub,Array.replicate_succ,Array.replicate_zero,List.push_toArray,List.append_toArray,List.nil_append,List.cons_append]
 gi_wp2
 go_ret
 exact⟨rfl,rfl⟩
def VarsAt (n₀:Nat) (W:World) (sv:Value) (zs:List (ByteArray × Nat)):Prop:=
 ∃p cap,sv= .slice p zs.length cap∧(zs= []∨∃b off,p=some ⟨b,off,none⟩∧b<n₀∧∀j,j<zs.length→W.cell? ⟨b,off+j*2,none⟩=some (.string (zs[j]?.getD (⟨⟨#[]⟩,0⟩:ByteArray × Nat)).1)∧W.cell? ⟨b,off+j*2+1,none⟩=some (.int .i64 ((zs[j]?.getD (⟨⟨#[]⟩,0⟩:ByteArray × Nat)).2:Nat)))
theorem VarsAt.below {n₀:Nat} {A B:World} (h:Below n₀ A B) {sv:Value} {zs:List (ByteArray × Nat)}:VarsAt n₀ A sv zs→VarsAt n₀ B sv zs:=by
 rintro ⟨p,cap,e,hz⟩
 refine⟨p,cap,e,?_⟩
 rcases hz with hz|⟨b,off,e2,hb,hc⟩
 ·exact .inl hz
 ·exact .inr ⟨b,off,e2,hb,fun j hj=>⟨(h.cell (p:=⟨b,off+j*2,none⟩) hb).trans (hc j hj).1,(h.cell (p:=⟨b,off+j*2+1,none⟩) hb).trans (hc j hj).2⟩⟩
theorem zOO (F:Fence) (n:Nat) (h7:F.fn 188) (hro:F.round=none) (hn:1≤n) (Bs n₀ m₀:Nat) (sv:Value) (zs:List (ByteArray × Nat)) (hreach:zs.length≤1000000) (w:World) (hBs:Bs<n₀) (hm:m₀≤n₀) (hn₀:n₀≤w.heap.size)
 (hc:w.cell? ⟨Bs,0,none⟩=some sv) (hI:VarsAt m₀ w sv zs):
 SeqStopsK F n Tryz.prog 188 #[.pointer (some ⟨Bs,0,none⟩)] (fun x:Nat × (ByteArray × Nat)=> #[Value.int .i64 (x.1:Int),.agg #[.string x.2.1,.int .i64 (x.2.2:Nat)]]) (Below n₀) (fun ys=>ys=upto (fun j=>(zs.length -1 -j,zs[zs.length -1 -j]?.getD (⟨⟨#[]⟩,0⟩:ByteArray × Nat))) zs.length)
  (fun pre=>∃k,k≤zs.length∧pre=upto (fun j=>(zs.length -1 -j,zs[zs.length -1 -j]?.getD (⟨⟨#[]⟩,0⟩:ByteArray × Nat))) k) zs.length w:=fun l J Jx W hW _ _ hY h0=>by
 have hc':=(hW.cell (p:=⟨Bs,0,none⟩) (Nat.lt_of_lt_of_le hBs hn₀)).trans hc
 obtain⟨p,cap,rfl,hz⟩:=hI.below (hW.mono (Nat.le_trans hm hn₀))
 rcases hz with rfl|⟨b,off,rfl,hb,hcs⟩
 ·exact(zKK F n h7 hro l Bs _ _ J W hc' h0).mono fun e W' ⟨he,hj⟩=>⟨he,.inl ⟨_,rfl,hj⟩⟩
 ·exact zSP F n h7 hro hn l Bs n₀ b off cap zs hreach (Nat.lt_of_lt_of_le hb hm) J Jx hY W hBs hc' hcs h0
theorem zHY {α:Type} {p:α→Bool}:∀ {L:List α} {k:Nat} {y:α},(∀(t:Nat) (x:α),t<k→L[t]? =some x→p x=false)→L[k]? =some y→p y=true→L.find? p=some y
 | [],k,y,_,h,_=>by simp at h
 |x::r,0,y,_,h,hy=>by cases h;rw [List.find?_cons,hy]
 |x::r,k+1,y,hp,h,hy=>by
  rw [List.find?_cons,hp 0 x (by omega) rfl]
  exact zHY (L:=r) (k:=k) (fun t z ht hz=>hp (t+1) z (by omega) (by simpa using hz)) (by simpa using h) hy
theorem zOA {α:Type} {p:α→Bool} {L:List α} (hp:∀(t:Nat) (x:α),L[t]? =some x→p x=false):L.find? p=none:=by
 rw [List.find?_eq_none]
 intro x hx
 obtain⟨t,ht⟩:=List.mem_iff_getElem?.1 hx
 rw [hp t x ht]
 decide
theorem zPC {zs:List (ByteArray × Nat)} {t:Nat} {x:ByteArray × Nat} (h:zs.reverse[t]? =some x):t<zs.length∧x=zs[zs.length -1 -t]?.getD (⟨⟨#[]⟩,0⟩:ByteArray × Nat):=by
 have hlt:t<zs.length:=by
  have:=(List.getElem?_eq_some_iff.1 h).1
  rwa [List.length_reverse] at this
 rw [List.getElem?_reverse hlt] at h
 rw [h]
 exact⟨hlt,rfl⟩
theorem zNQ {g:Co.G} {s:ByteArray} (h:∀p∈upto (fun j=>(g.vars.length -1 -j,g.vars[g.vars.length -1 -j]?.getD (⟨⟨#[]⟩,0⟩:ByteArray × Nat))) g.vars.length,p.2.1≠s):Co.zA0 g s= -1:=by
 unfold Co.zA0
 rw [zOA (fun t x ht=>?_)]
 obtain⟨hlt,rfl⟩:=zPC ht
 exact decide_eq_false (h (g.vars.length -1 -t,_) (List.mem_map.2 ⟨t,List.mem_range.2 hlt,rfl⟩))
theorem zNP {g:Co.G} {s:ByteArray} {k:Nat} (hk:k<g.vars.length) (h:∀p∈upto (fun j=>(g.vars.length -1 -j,g.vars[g.vars.length -1 -j]?.getD (⟨⟨#[]⟩,0⟩:ByteArray × Nat))) k,p.2.1≠s) (hs:(g.vars[g.vars.length -1 -k]?.getD (⟨⟨#[]⟩,0⟩:ByteArray × Nat)).1=s):Co.zA0 g s=(g.vars[g.vars.length -1 -k]?.getD (⟨⟨#[]⟩,0⟩:ByteArray × Nat)).2:=by
 unfold Co.zA0
 have hg:g.vars.reverse[k]? =some (g.vars[g.vars.length -1 -k]?.getD (⟨⟨#[]⟩,0⟩:ByteArray × Nat)):=by
  rw [List.getElem?_reverse hk,List.getElem?_eq_getElem (by omega)]
  rfl
 rw [zHY (k:=k) (y:=g.vars[g.vars.length -1 -k]?.getD (⟨⟨#[]⟩,0⟩:ByteArray × Nat)) (fun t x ht hx=>?_) hg (decide_eq_true hs)]
 obtain⟨hlt,rfl⟩:=zPC hx
 exact decide_eq_false (h (g.vars.length -1 -t,_) (List.mem_map.2 ⟨t,List.mem_range.2 ht,rfl⟩))
theorem zTH {B0 gb:Nat} {cs:List Tr.C} {cl:Tr.C} {pv fv mv:Value} {g:Co.G} {cv nv vv:Value} {w:World} (h:GS B0 gb cs cl pv fv mv g cv nv vv w):VarsAt w.heap.size w vv g.vars:=by
 rcases zB3 zBJ h.vars with ⟨e,rfl⟩|⟨b,cap,rfl,hb,hn,hm,hc⟩
 ·exact⟨none,0,by rw [e];rfl,.inl e⟩
 ·refine⟨_,cap,rfl,?_⟩
  by_cases h0:g.vars= []
  ·exact .inl h0
  ·refine .inr ⟨b,0,rfl,(zR h.vars rfl).2,fun j hj=>?_⟩
   have hx:g.vars[j]? =some (g.vars[j]?.getD (⟨⟨#[]⟩,0⟩:ByteArray × Nat)):=by rw [List.getElem?_eq_getElem hj];rfl
   have c1:=hc j _ hx 0 _ rfl
   have c2:=hc j _ hx 1 _ rfl
   rw [Nat.add_zero] at c1
   rw [Nat.zero_add]
   exact⟨c1,c2⟩
set_option maxRecDepth 100000 in
set_option maxHeartbeats 8000000 in
theorem zR5 (F:Fence) (n:Nat) (h3:F.fn 133) (h5:F.fn 171) (h7:F.fn 188) (hro:F.round=none) (hn:3≤n) {B0 gb:Nat} {cs:List Tr.C} {cl:Tr.C} {pv fv mv:Value} {g:Co.G} {cv nv vv:Value} {w:World} (h:GS B0 gb cs cl pv fv mv g cv nv vv w) (hv:g.vars.length≤1000000) (s:ByteArray):
 CallsIn F n Tryz.prog 133 #[.pointer (some ⟨gb,0,none⟩),.string s] w fun e W'=>e= .returned (.int .i64 (Co.zA0 g s))∧Below w.heap.size w W':=by
 have h1:1≤n:=by omega
 have hI:=zTH h
 obtain⟨p,cap,hvv,_⟩:=id hI
 have g7:=gcell h (j:=7) (u:=vv) rfl
 have gl:=lt_of_block h.blk
 have HLN:=zh (zNQ (g:=g) (s:=s))
 have HLS:=zh (fun k=>zNP (g:=g) (s:=s) (k:=k))
 obtain⟨L,hL⟩:∃q,Co.zA0 g s=q:=⟨_,rfl⟩
 rw [hL] at HLN HLS ⊢
 rw [hvv] at g7 hI
 obtain⟨zs,hzs⟩:∃q,g.vars=q:=⟨_,rfl⟩
 rw [hzs] at hI HLN HLS hv g7
 clear h hvv hL hzs
 obtain⟨N,hN⟩:∃q,zs.length=q:=⟨_,rfl⟩
 rw [hN] at g7 hI
 refine callsIn_of_wp_marks Tryz.func133 rfl h3 ?_ hro
 simp only [Tryz.ntmps133,List.size_toArray,List.length_cons,List.length_nil,Nat.reduceAdd,Nat.reduceSub,Array.replicate_succ,Array.replicate_zero,List.push_toArray,List.append_toArray,List.nil_append,List.cons_append]
 have hb1:=zD w (.cells #[.string s] 9)
 have hb2:=zC hb1 (zD (w.alloc (.cells #[.string s] 9)) (.cells #[.int .i64 0] 3))
 have g7a:=zA hb2 g7
 have gla:=Nat.lt_of_lt_of_le gl hb2.size
 gi_wp2_with (gi_at_call 171;refine(zUE F (n -1) h5 hro _ _ _ _).mono ?_;rintro e w' ⟨rfl,rfl⟩)
 have bS:=((Boxed.new w 9 (.string s)).alloc (.cells #[.int .i64 0] 3)).alloc (.cells #[.slice p N cap] 102)
 have bR:=(Boxed.new (w.alloc (.cells #[.string s] 9)) 3 (.int .i64 0)).alloc (.cells #[.slice p N cap] 102)
 have bN:=Boxed.new ((w.alloc (.cells #[.string s] 9)).alloc (.cells #[.int .i64 0] 3)) 102 (.slice p N cap)
 simp only [World.size_alloc] at bR bN
 have hB0:Below w.heap.size w (((w.alloc (.cells #[.string s] 9)).alloc (.cells #[.int .i64 0] 3)).alloc (.cells #[.slice p N cap] 102)):=(((Below.refl _ w).alloc (Nat.le_refl _) _).alloc (by simp) _).alloc (by simp;omega) _
 have hsz:(((w.alloc (.cells #[.string s] 9)).alloc (.cells #[.int .i64 0] 3)).alloc (.cells #[.slice p N cap] 102)).heap.size=w.heap.size+3:=by simp
 obtain⟨W0,hW0⟩:∃W0,((w.alloc (.cells #[.string s] 9)).alloc (.cells #[.int .i64 0] 3)).alloc (.cells #[.slice p N cap] 102)=W0:=⟨_,rfl⟩
 rw [hW0] at bS bR bN hB0 hsz ⊢
 clear hW0 g7a gla g7 gl hb1 hb2
 refine wpIn_rangeFunc_ownH hro h1 (gf:=188) (lb:= #[.pointer (some ⟨w.heap.size+1+1,0,none⟩)]) rfl h7 (enters_of Tryz.func188 (by kernel_rfl) rfl)
  (zOO F (n -1) h7 hro (by omega) (w.heap.size+1+1) (w.heap.size+3) w.heap.size _ zs hv W0 (by omega) (by omega) (by omega) bN.cell (by rw [hN] at*;exact hI.below hB0)) belowK_t (belowK_b (by omega)) (Below.refl _ _) (fun _=>rfl)
  (fun pre W=>(((∀p∈pre,p.2.1≠s)∧Boxed W (w.heap.size+1) 3 (.int .i64 0)∧Boxed W w.heap.size 9 (.string s))∧Below w.heap.size w W)∧Below (w.heap.size+3) W0 W)
  (fun c pre W=>(c= .ret∧∃ini last,pre=ini++ [last]∧(∀p∈ini,p.2.1≠s)∧last.2.1=s∧W.cell? ⟨w.heap.size+1,0,none⟩=some (.int .i64 (last.2.2:Nat)))∧Below w.heap.size w W)
  (OwnFrom.and (OwnFrom.and (Own.from (fun q A B row hs hg hr=>⟨hs.1,boxed_own _ _ (fun (_:Unit)=>Value.int .i64 0) () A B row hs.2.1 hg hr,boxed_own _ _ (fun (_:Unit)=>Value.string s) () A B row hs.2.2 hg hr⟩) _) (ownFrom_below (Nat.le_refl _) (by omega))) (ownFrom_below (by omega) (by omega)))
  (fun c=>OwnFrom.and (Own.from (fun q A B row hs hg hr=>by obtain⟨hc,ini,last,e1,e2,e3,e4⟩:=hs;exact⟨hc,ini,last,e1,e2,e3,cell_kept e4 hg hr⟩) _) (ownFrom_below (Nat.le_refl _) (by omega)))
  ⟨⟨⟨by simp,bR,bS⟩,hB0⟩,Below.refl _ _⟩
  (fun x a' W=>∃Bx,w.heap.size+2<Bx∧W.heap[Bx]? =some (.cells #[.string x.2.1,.int .i64 (x.2.2:Nat)] 106 (0,0))∧a'= { tmps:= #[.pointer (some ⟨gb,0,none⟩),.string s,undef,.pointer (some ⟨w.heap.size,0,none⟩),.pointer (some ⟨w.heap.size+1,0,none⟩),undef,.pointer (some ⟨Bx,0,none⟩),.pointer (some ⟨gb,0,none⟩),.pointer (some ⟨gb,0,none⟩),.pointer (some ⟨gb,7,none⟩),.slice p N cap,.func (.func 188) #[] #[.pointer (some ⟨w.heap.size+1+1,0,none⟩)],.int .i64 (x.1:Int),.agg #[.string x.2.1,.int .i64 (x.2.2:Nat)],undef,undef,undef,undef,undef,undef],defers:= [] })
  (fun x a' _ X Y row hs hg hr=>by obtain⟨Bx,h1,h2,h3⟩:=hs;exact⟨Bx,h1,gr_at hg h2 (fun e=>by obtain⟨o,ho,hc⟩:=(hr Bx e.symm).2;rw [h2] at ho;cases ho;cases hc),h3⟩)
  ?assign ?body ?done ?stop
 case assign=>
  rintro l pre x W K ⟨⟨⟨hp,bR1,bS1⟩,hB1⟩,hB2⟩ hK
  have hsz2:=hB2.size
  gi_wp2
  exact hK _ _ ((KeepsOthers.alloc _ _).from _) ((Below.refl _ W).alloc (by omega) _) ⟨⟨⟨hp,bR1.alloc _,bS1.alloc _⟩,hB1.alloc hB1.size _⟩,hB2.alloc (by omega) _⟩ ⟨W.heap.size,by omega,zPN rfl,rfl⟩
 case body=>
  rintro l pre x a' W hl ⟨r,hr⟩ ⟨⟨⟨hp,bR1,bS1⟩,hB1⟩,hB2⟩ ⟨Bx,hBx,bX,rfl⟩ hlt
  have cS:=bS1.cell
  have cR:=bR1.cell
  have fR:=bR1.frozen
  have cX:=zB bX (j:=0) rfl
  have cX1:=zB bX (j:=1) rfl
  cases hv2:decide (x.2.1=s)
  ·have hq:(x.2.1.toList == s.toList)=false:=by rw [zAK,hv2]
   gi_wp2
   exact⟨KeepsFrom.refl _ _,Below.refl _ _,⟨⟨fun p hp'=>(List.mem_append.1 hp').elim (hp p) (fun e=>by rw [List.mem_singleton.1 e];exact of_decide_eq_false hv2),bR1,bS1⟩,hB1⟩,hB2⟩
  ·have hq:(x.2.1.toList == s.toList)=true:=by rw [zAK,hv2]
   gi_wp2
   exact⟨(KeepsOthers.setCell _ _ _).from _,⟨rfl,pre,x,rfl,hp,of_decide_eq_true hv2,World.cell?_setCell_same' _ _ _ (by rw [cR];rfl)⟩,hB1.setCell (p:=⟨w.heap.size+1,0,none⟩) (by simp) _⟩
 case done=>
  rintro D ys W hD rfl ⟨⟨⟨hne,bR1,bS1⟩,hB1⟩,_⟩ hK
  have cR:=bR1.cell
  have fR:=bR1.frozen
  gi_wp2
  have hK':=(KeepsOthers.setCell W ⟨w.heap.size+1,0,none⟩ (.int .i64 (-1))).same D _ hK rfl
  refine⟨by simp,.inl ⟨_,_,rfl,run_takeDeferred hK',?_⟩⟩
  have hc5:=cell_kept (World.cell?_setCell_same' W ⟨w.heap.size+1,0,none⟩ (.int .i64 (-1)) (by rw [cR];rfl)) (grownBy_putObj' _ D (.deferred none)) (fun r e=>by cases e;exact⟨_,hK',rfl⟩)
  refine⟨.int .i64 (-1),?_,by rw [HLN.out hne],(hB1.setCell (p:=⟨w.heap.size+1,0,none⟩) (by simp) _).trans (belowK_b (w:=w) (Nat.le_refl _) _ D _ _ (by omega) hK' rfl rfl)⟩
  simp [results,Tryz.f133,go_sem,hc5]
 case stop=>
  rintro D c pre W hD ⟨k,hk,rfl⟩ ⟨⟨rfl,ini,last,e1,e2,e3,hcr⟩,hB1⟩ hK
  gi_wp2
  refine⟨by simp,.inl ⟨_,_,rfl,run_takeDeferred hK,?_⟩⟩
  have hc5:=cell_kept hcr (grownBy_putObj' _ D (.deferred none)) (fun r e=>by cases e;exact⟨_,hK,rfl⟩)
  obtain⟨k',rfl⟩:∃k',k=k'+1:=by
   cases k with
   |zero=>simp [upto] at e1
   |succ k'=>exact ⟨k',rfl⟩
  rw [zF4] at e1
  obtain⟨rfl,e5⟩:=List.append_inj' e1 rfl
  have e6:(zs.length -1 -k',zs[zs.length -1 -k']?.getD (⟨⟨#[]⟩,0⟩:ByteArray × Nat))=last:=by simpa using e5
  subst e6
  refine⟨.int .i64 ((zs[zs.length -1 -k']?.getD (⟨⟨#[]⟩,0⟩:ByteArray × Nat)).2:Nat),?_,by rw [HLS.out k' (by omega) e2 e3],hB1.trans (belowK_b (w:=w) (Nat.le_refl _) W D _ _ (by omega) hK rfl rfl)⟩
  simp [results,Tryz.f133,go_sem,hc5]
theorem zJT {B0 gb:Nat} {cs:List Tr.C} {cl:Tr.C} {pv fv mv:Value} {g:Co.G} {cv nv vv:Value} {w:World} (h:GS B0 gb cs cl pv fv mv g cv nv vv w) (hv:g.vars.length≤1000000) (s:ByteArray):
 Calls Tryz.prog 133 #[.pointer (some ⟨gb,0,none⟩),.string s] w fun e W'=>e= .returned (.int .i64 (Co.zA0 g s))∧Below w.heap.size w W':=
 callsIn_wide.1 (zR5 Fence.wide 3 trivial trivial trivial rfl (by decide) h hv s)
end Cw
end Go.Proofs.YtcnmfcgmnkncaaaGreatDoor
namespace Go.Proofs.YtcnmfcgmnkncaaaGreatDoor
namespace Cw
open Go.RowKit Go.Maps Pw
theorem zIM (L:Int):∀(l:List Co.Ins) (i:Nat),i<l.length→(flatV iCells l).set (i*3+1) (.int .i64 L)=flatV iCells (l.modify i fun x=>(x.1,L,x.2.2))
 | [],i,h=>by simp at h
 |x::r,0,_=>by
  rw [z8]
  show _=flatV iCells ((x.1,L,x.2.2)::r)
  rw [z8]
  rfl
 |x::r,i+1,h=>by
  have ih:=zIM L r i (by simpa using h)
  show _=flatV iCells (x::r.modify i _)
  rw [z8,z8,←ih]
  have e:(i+1)*3+1=(i*3+1)+3:=by omega
  rw [e]
  rfl
theorem GS.patch {B0 gb:Nat} {cs:List Tr.C} {cl:Tr.C} {pv fv mv:Value} {g:Co.G} {cv nv vv:Value} {W:World} (h:GS B0 gb cs cl pv fv mv g cv nv vv W) {i:Nat} (hi:i<g.code.length) {cb cap:Nat} (hcv:cv= .slice (some ⟨cb,0,none⟩) g.code.length cap):
 (GS B0 gb cs cl pv fv mv (Co.patch g i) cv nv vv (W.setCell ⟨cb,i*3+1,none⟩ (.int .i64 g.code.length))∧Gr W (owl gb cv nv vv) (W.setCell ⟨cb,i*3+1,none⟩ (.int .i64 g.code.length)) (owl gb cv nv vv))∧cb<W.heap.size∧(∃u,W.cell? ⟨cb,i*3+1,none⟩=some u)∧W.frozen? ⟨cb,i*3+1,none⟩=false:=by
 have hown:cv.ownBlock=some cb:=by rw [hcv];rfl
 have hg:=zH W cb (i*3+1) (.int .i64 g.code.length)
 obtain⟨⟨d1,d2,d3⟩,d4,d5⟩:=zA3.1 h.nd
 have ho:∀q,q≠cb→q<W.heap.size→(W.setCell ⟨cb,i*3+1,none⟩ (.int .i64 g.code.length)).heap[q]? =W.heap[q]?:=fun q hq hlt=>hg.block q hlt (ne_sm hq)
 have hcb:=(zR h.code hown).1
 rcases h.code.2 with ⟨e,_⟩|⟨b,cap',cur,e,hb,hblk,hn,hm,hcs,ht⟩
 ·rw [hcv] at e
  cases e
 ·rw [hcv] at e
  injection e with e1 e2 e3
  injection e1 with e1
  injection e1 with e1
  subst e1
  subst e3
  have hsz:i*3+1<cur.size:=by rw [hcs];omega
  refine⟨⟨⟨(ho gb (fun e=>d1 (e▸hown)) (lt_of_block h.blk)).trans h.blk,?_,?_,?_,h.nd,h.ge,h.ns,h.vs,h.pc.inc (zBH hg.size (fun b hb h0=>ho b (by omega) hb)),h.fc.inc (zBH hg.size (fun b hb h0=>ho b (by omega) hb))⟩,Gr.by hg (zQ.2 (.inr (.inl hown)))⟩,lt_of_block hblk,⟨cur[i*3+1],zB hblk (Array.getElem?_eq_getElem hsz)⟩,zI hblk _⟩
  ·have hlen:(Co.patch g i).code.length=g.code.length:=Co.zBC g i
   refine⟨by rw [hlen,←h.code.1];show(flatV iCells (g.code.modify i fun x=>(x.1,(g.code.length:Int),x.2.2))).length=_;rw [←zIM _ _ _ hi,List.length_set],.inr ⟨cb,cap,cur.setIfInBounds (i*3+1) (.int .i64 g.code.length),by rw [hcv,hlen],hb,Pw.heap_set (j:=i*3+1) _ hblk,by rw [hlen];exact hn,hm,by rw [Array.size_setIfInBounds];exact hcs,?_⟩⟩
   show _=flatV iCells (g.code.modify i fun x=>(x.1,(g.code.length:Int),x.2.2))
   rw [←zIM _ _ _ hi,←ht,hlen,Array.toList_setIfInBounds,List.take_set]
  ·exact zX h.names (fun q hq=>ho q (fun e=>(d4 cb hown).1 (e▸hq)) (zR h.names hq).2)
  ·exact zX h.vars (fun q hq=>ho q (fun e=>(d4 cb hown).2 (e▸hq)) (zR h.vars hq).2)
theorem Mz.callB {B0 V:Nat} {w W W':World} {o0 ow ow':List Nat} {Q Q':World→Prop} {bs nb:List Bk} {os:List (World→Prop)} (h:Mz B0 V w o0 Q ow bs os W) (hg:Gr W ow W' ow') (ho:∀b∈ow',b<W'.heap.size∧B0≤b) (hq:Q' W') (pk:∀ {U U':World},U.heap.size≤U'.heap.size→(∀b,b<U.heap.size→(b∈ow'∨b<B0)→U'.heap[b]? =U.heap[b]?)→Q' U→Q' U')
 (hn:∀x∈nb,W'.heap[x.1]? =some (.cells x.2.1 x.2.2 (0,0))∧W.heap.size≤x.1∧x.1∉ow') (hnd:(nb.map Prod.fst).Nodup):Mz B0 V w o0 Q' ow' (nb++bs) os W':=by
 have h1:=h.call hg ho hq pk
 refine⟨h1.q,h1.pk,h1.hB,h1.hV,h1.gr,h1.ol,fun x hx=>?_,?_,fun r hr=>⟨(h1.ro r hr).1,(h1.ro r hr).1 _ _ ?_ (h.ro r hr).2⟩⟩
 ·rcases List.mem_append.1 hx with hx|hx
  ·exact⟨(hn x hx).1,Nat.le_trans h.le (hn x hx).2.1,(hn x hx).2.2⟩
  ·exact h1.bl x hx
 ·rw [List.map_append,List.nodup_append]
  refine⟨hnd,h.nd,fun a ha b hb e=>?_⟩
  obtain⟨x,hx,rfl⟩:=List.mem_map.1 ha
  have:=(h.lts hb).2.1
  have:=(hn x hx).2.1
  omega
 ·refine⟨by rw [z6,z6];exact hg.size,fun b j v hc=>?_⟩
  obtain⟨hs,hc⟩:=zN hc
  have hlt:=zZ hc
  have hnot:b∉ow++bs.map Prod.fst:=fun hm=>by
   rw [zA8.2 (.inr hm)] at hs
   cases hs
  have hvb:V≤b:=by
   rcases Nat.lt_or_ge b V with h2|h2
   ·rw [zA8.2 (.inl h2)] at hs
    cases hs
   ·exact h2
  have hn1:b∉ow'++(nb++bs).map Prod.fst:=fun hm=>by
   rcases List.mem_append.1 hm with hm|hm
   ·rcases hg.own b hm with h2|h2
    ·exact hnot (List.mem_append.2 (.inl h2))
    ·omega
   ·rw [List.map_append] at hm
    rcases List.mem_append.1 hm with hm|hm
    ·obtain⟨x,hx,rfl⟩:=List.mem_map.1 hm
     have:=(hn x hx).2.1
     omega
    ·exact hnot (List.mem_append.2 (.inr hm))
  rw [zAO (zBX hvb hn1)]
  have hb:=hg.keep b hlt (fun hm=>hnot (List.mem_append.2 (.inl hm)))
  unfold World.cell? at hc ⊢
  rw [hb]
  exact hc
def labV (X A:Nat):Value:= .func (.func 172) #[] #[.pointer (some ⟨X,0,none⟩),.pointer (some ⟨A,0,none⟩)]
def JQ (B0 gb:Nat) (cs:List Tr.C) (cl:Tr.C) (pv fv mv:Value) (g':Co.G) (k:Nat) (cv nv vv:Value) (w:World) (e:Ending) (w':World):Prop:=
 ∃X A cv' nv' vv',e= .returned (labV X A)∧GS B0 gb cs cl pv fv mv g' cv' nv' vv' w'∧Gr w (owl gb cv nv vv) w' (owl gb cv' nv' vv')∧
  w'.heap[X]? =some (.cells #[.pointer (some ⟨gb,0,none⟩)] 101 (0,0))∧w'.heap[A]? =some (.cells #[.int .i64 k] 3 (0,0))∧w.heap.size≤X∧w.heap.size≤A∧X∉owl gb cv' nv' vv'∧A∉owl gb cv' nv' vv'∧A≠X
theorem Mg.jumped {B0 gb:Nat} {cs:List Tr.C} {cl:Tr.C} {pv fv mv:Value} {g g':Co.G} {cv nv vv:Value} {w W W':World} {o0:List Nat} {bs:List Bk} {os:List (World→Prop)} {k:Nat} (h:Mg B0 gb cs cl pv fv mv w o0 g cv nv vv bs os W) {e:Ending} (hp:JQ B0 gb cs cl pv fv mv g' k cv nv vv W e W'):
 ∃X A cv' nv' vv',e= .returned (labV X A)∧Hid (Mg B0 gb cs cl pv fv mv w o0 g' cv' nv' vv' ((A,#[.int .i64 k],3)::(X,#[.pointer (some ⟨gb,0,none⟩)],101)::bs) os W'):=by
 obtain⟨X,A,c,n,v,he,h1,h2,h3,h4,h5,h6,h7,h8,h9⟩:=hp
 refine⟨X,A,c,n,v,he,zh (Mz.callB (nb:= [(A,#[.int .i64 k],3),(X,#[.pointer (some ⟨gb,0,none⟩)],101)]) h h2 h1.ol h1 (fun hs hk hq=>hq.keep hs hk) (fun x hx=>?_) ?_)⟩
 ·simp only [List.mem_cons,List.not_mem_nil,or_false] at hx
  rcases hx with rfl|rfl
  ·exact⟨h4,h6,h8⟩
  ·exact⟨h3,h5,h7⟩
 ·simp [h9]
set_option maxRecDepth 100000 in
set_option maxHeartbeats 16000000 in
theorem zB1 {B0 gb:Nat} {cs:List Tr.C} {cl:Tr.C} {pv fv mv:Value} {g:Co.G} {cv nv vv:Value} {w:World} (h:GS B0 gb cs cl pv fv mv g cv nv vv w) {n:Nat} (hbd:Co.Bd n g∧n≤900000) {k:Nat} (hk:k<g.code.length) {X A:Nat} (hX:w.heap[X]? =some (.cells #[.pointer (some ⟨gb,0,none⟩)] 101 (0,0))) (hA:w.heap[A]? =some (.cells #[.int .i64 k] 3 (0,0))) (hXo:X∉owl gb cv nv vv) (hAo:A∉owl gb cv nv vv):
 Calls Tryz.prog 172 #[.pointer (some ⟨X,0,none⟩),.pointer (some ⟨A,0,none⟩)] w (GQ B0 gb cs cl pv fv mv (Co.patch g k) cv nv vv w):=by
 have hB:B0≤w.heap.size:=by have h9:=h.ol gb (zQ.2 (.inl rfl));omega
 obtain⟨wd,HWD,CD⟩:=(Mg.start (os:= []) h hB (fun _ h=>by cases h)).drewE
 have hdh:wd.heap=w.heap:=by rw [HWD.out];rfl
 have hXd:=hX
 have hAd:=hA
 rw [←hdh] at hXd hAd
 clear hdh
 clear hX hA
 have h:=CD.out.q
 have HGR:=zh CD.out.gr
 have hX:=hXd
 have hA:=hAd
 obtain⟨cb,cap,hcv⟩:∃cb cap,cv= .slice (some ⟨cb,0,none⟩) g.code.length cap:=by
  rcases h.code.2 with ⟨_,e⟩|⟨b,cap,_,e,_⟩
  ·omega
  ·exact⟨b,cap,e⟩
 obtain⟨⟨h1,h2⟩,hlt,⟨u,hu⟩,hfr⟩:=h.patch hk hcv
 have hXc:=zB hX (j:=0) (u:= .pointer (some ⟨gb,0,none⟩)) rfl
 have hAc:=zB hA (j:=0) (u:= .int .i64 k) rfl
 have hgc:=gcell h (j:=5) (u:=cv) rfl
 have hown:cv.ownBlock=some cb:=by rw [hcv];rfl
 have hXn:X≠cb:=fun e=>hXo (zQ.2 (.inr (.inl (e▸hown))))
 have hAn:A≠cb:=fun e=>hAo (zQ.2 (.inr (.inl (e▸hown))))
 have hgn:gb≠cb:=fun e=>(zA3.1 h.nd).1.1 (e▸hown)
 have hgl:=lt_of_block h.blk
 have hNb:=hbd.1.code
 have hN9:=hbd.2
 rw [hcv] at hgc
 obtain⟨N,hN⟩:∃q,g.code.length=q:=⟨_,rfl⟩
 rw [hN] at hgc hk h1 h2 hNb
 have H1:=zh h1
 have H2:=zh h2
 have HXN:=zh hXn
 have HAN:=zh hAn
 have HGN:=zh hgn
 have b1:(0:Int)≤(k:Int):=by omega
 have b2:(k:Int)<(N:Int):=by omega
 clear h hX hA hXd hAd hXo hAo hbd hcv hown hXn hAn hgn h1 h2 hN hB CD
 go_enter Tryz.func172,Tryz.ntmps172
 go_upto_region 0 with fail
 refine wp_region_held_drew (S:=fun W=>W.cell? ⟨X,0,none⟩=some (.pointer (some ⟨gb,0,none⟩))∧W.cell? ⟨A,0,none⟩=some (.int .i64 k)∧W.cell? ⟨gb,5,none⟩=some (.slice (some ⟨cb,0,none⟩) N cap)) (by kernel_rfl) (by rw [←HWD.out];exact⟨hXc,hAc,hgc⟩) (fun hHeld=>?_)
 rw [←HWD.out] at hHeld ⊢
 clear HWD
 refine rU 0 (some 2) ?_
 refine rU 1 (some 3) ?_
 refine rU 2 (some 4) ?_
 refine rU 3 (some 5) ?_
 refine rU 4 (some 6) ?_
 refine rU 5 (some 7) ?_
 refine rU 6 (some 8) ?_
 refine rU 7 (some 9) ?_
 refine rU 8 (some 10) ?_
 refine rR1 9 (some 11) (fun K hK=>?_)
 go_simp
 refine hK.out _ _ hHeld (fun hHeld=>?_)
 clear hK K
 try simp only [Act.put,q0,q1,q2]
 refine rU 10 (some 12) ?_
 refine rU 11 (some 13) ?_
 refine rR1 12 none (fun K hK=>?_)
 go_simp
 refine hK.out _ _ ?_ (fun _=>?_)
 ·exact⟨by rw [zAJ HXN.out];exact hHeld.1,by rw [zAJ HAN.out];exact hHeld.2.1,by rw [zAJ HGN.out];exact hHeld.2.2⟩
 clear hK K
 try simp only [Act.put,q0,q1,q2]
 refine wpAnyH_done (by kernel_rfl) ?_ _
 go_wp2_with fail
 go_end0
 exact⟨rfl,_,_,_,H1.out,HGR.out.trans H2.out⟩
set_option maxRecDepth 100000 in
set_option maxHeartbeats 16000000 in
theorem zEF {B0 gb:Nat} {cs:List Tr.C} {cl:Tr.C} {pv fv mv:Value} {g:Co.G} {cv nv vv:Value} {w:World} (h:GS B0 gb cs cl pv fv mv g cv nv vv w) (hB:B0≤w.heap.size) {n:Nat} (hbd:Co.Bd n g∧n≤900000) (op p:Int) (hp:0≤p∧p≤1000000):
 Calls Tryz.prog 137 #[.pointer (some ⟨gb,0,none⟩),.int .i64 op,.int .i64 p] w (JQ B0 gb cs cl pv fv mv (Co.emit g op 0 0 p 0) g.code.length cv nv vv w):=by
 have HBD:=zh hbd
 have HP:=zh hp
 have C0:=zh (Mg.start (os:= []) h hB (fun _ h=>by cases h))
 clear h hB hbd hp
 obtain⟨pc,cc,hcv⟩:=own_form C0.out.q.code
 have HCV:=zh hcv
 clear hcv
 obtain⟨N,hN⟩:∃q,g.code.length=q:=⟨_,rfl⟩
 rw [hN] at HCV
 have HN:=zh hN
 clear hN
 obtain⟨X,w1,HX1,HW1,hx1,C1⟩:=C0.out.boxE #[.pointer (some ⟨gb,0,none⟩)] 101
 go_enter Tryz.func137,Tryz.ntmps137
 go_upto_region 1 with fail
 rw [←HX1.out,←HW1.out]
 clear HX1 HW1 C0
 have gl:=lt_of_block C1.out.q.blk
 have g5:=gcell C1.out.q (j:=5) rfl
 have gf5:=gfree C1.out.q 5
 have q0:=cells1 (C1.out.b 0 rfl)
 rw [HCV.out] at g5
 obtain⟨A,w2,HX,HW,hx2,C2⟩:=C1.out.boxE #[.int .i64 N] 3
 go_upto_region 2 with fail
 rw [←HX.out,←HW.out]
 clear HX HW C1
 clear gl g5 gf5 q0
 have q1:=cells1 (C2.out.b 1 rfl)
 go_wp2_with fail
 refine(zW C2.out.q (Nat.le_trans C2.out.hB C2.out.le) HBD.out op 0 0 p 0 HP.out ⟨by decide,by decide⟩).mono ?_
 rintro e w9 hp9
 obtain⟨rfl,c9,n9,v9,C9⟩:=Mg.done C2.out hp9
 clear hp9 C2 q1
 go_wp2_with fail
 go_ret
 rw [HN.out]
 exact⟨X,A,c9,n9,v9,rfl,C9.out.q,C9.out.gr,C9.out.b 1 rfl,C9.out.b 0 rfl,(C9.out.lt 1 rfl).1,(C9.out.lt 0 rfl).1,(C9.out.lts (q:=X) (by simp)).2.2,(C9.out.lts (q:=A) (by simp)).2.2,fun e=>by have h9:=C9.out.nd;simp [e] at h9⟩
set_option maxRecDepth 100000 in
set_option maxHeartbeats 16000000 in
theorem zQV {I:Nat→World→Prop} (l:List Tr.E) {v:Value} {w:World} {PP:Nat} (hl:l.length≤1000000) (h0:I 0 w) (hv:∃p c,v= .slice p l.length c)
 (hc:∀j x W,l[j]? =some x→I j W→∃f:Nat→Bool,SlE (hide f W) v l∧∀a W',BdE x→Below W.heap.size W W'→SlE (hide f W) a x.args→Calls Tryz.prog 132 #[.pointer (some ⟨PP,0,none⟩),exprV x a] W' (fun e W''=>e= .returned (.tuple #[])∧I (j+1) W'')):
 Calls Tryz.prog 130 #[v,.func (.func 132) #[.pointer (some ⟨PP,0,none⟩)] #[]] w (fun e w'=>e= .returned (.tuple #[])∧I l.length w'):=by
 obtain⟨p,c,rfl⟩:=hv
 obtain⟨N,hN⟩:∃q,l.length=q:=⟨_,rfl⟩
 rw [hN] at hc hl ⊢
 have HN:=zh hN
 have HC:=zh hc
 have H0:=zh h0
 clear hN hc h0
 go_enter Tryz.func130,Tryz.ntmps130
 go_wp2_with fail
 go_loopg [8] N (fun gg s8 wr=>∃j:Nat,s8= .int .i64 j∧j≤N∧gg=N -j∧Hid (I j wr))
 case atStart=>exact ⟨0,rfl,Nat.zero_le _,rfl,H0⟩
 case round=>
  clear H0
  obtain⟨j,rfl,hj,rfl,HI⟩:=hrel
  by_cases hlt:j<N
  ·obtain⟨x,hx⟩:∃x,l[j]? =some x:=⟨_,List.getElem?_eq_getElem (by rw [HN.out];exact hlt)⟩
   obtain⟨f,hs,hcall⟩:=HC.out j x wr hx HI.out
   obtain⟨b,oo,aa,rfl,hblt,⟨x0,x1,x2,x3,x4,x5⟩,hbdx,hsl⟩:=hs.get hx
   replace x0:=(zN x0).2
   replace x1:=(zN x1).2
   replace x2:=(zN x2).2
   replace x3:=(zN x3).2
   replace x4:=(zN x4).2
   replace x5:=(zN x5).2
   obtain⟨pa,ca,rfl,_⟩:=hsl.form
   obtain⟨AX,hAX⟩:∃N,x.args.length=N:=⟨_,rfl⟩
   rw [hAX] at x5
   have b3j:(j:Int)<(N:Int):=by omega
   have b0j:(0:Int)≤(j:Int):=by omega
   obtain⟨w4,HW4⟩:∃q,Hid (q=wr.alloc (.cells #[.int .i64 x.kind,.int .i64 x.op,.int .i64 x.int,.string x.name,.bool x.at_,.slice pa AX ca] 37)):=⟨_,zh rfl⟩
   have hb4:Below wr.heap.size wr w4:=by rw [HW4.out];exact zD _ _
   have KC:=zh (hcall (.slice pa AX ca) w4 hbdx hb4 (by rw [hAX] at hsl;exact hsl))
   unfold exprV at KC
   clear hx hbdx hsl hAX hb4 HI hcall hs
   go_wp2_with fail
   rw [←HW4.out]
   clear HW4
   refine KC.out.mono ?_
   rintro e w5 ⟨rfl,hi5⟩
   have HI5:=zh hi5
   clear hi5 KC x0 x1 x2 x3 x4 x5
   go_wp2_with fail
   go_roundg (N -(j+1))
   case measure=>omega
   case rel=>exact ⟨j+1,by go_num,by omega,rfl,HI5⟩
  ·obtain rfl:j=N:=by omega
   go_wp2_with fail
   go_end0
   exact⟨rfl,HI.out⟩
set_option maxRecDepth 100000 in
set_option maxHeartbeats 16000000 in
theorem zQT {I:Nat→World→Prop} (l:List Tr.E) {v:Value} {w:World} {PP:Nat} (hl:l.length≤1000000) (h0:I 0 w) (hv:∃p c,v= .slice p l.length c)
 (hc:∀j x W,l[j]? =some x→I j W→∃f:Nat→Bool,SlE (hide f W) v l∧∀a W',BdE x→Below W.heap.size W W'→SlE (hide f W) a x.args→Calls Tryz.prog 131 #[exprV x a,.pointer (some ⟨PP,0,none⟩)] W' (fun e W''=>e= .returned (.tuple #[])∧I (j+1) W'')):
 Calls Tryz.prog 130 #[v,.func (.func 131) #[] #[.pointer (some ⟨PP,0,none⟩)]] w (fun e w'=>e= .returned (.tuple #[])∧I l.length w'):=by
 obtain⟨p,c,rfl⟩:=hv
 obtain⟨N,hN⟩:∃q,l.length=q:=⟨_,rfl⟩
 rw [hN] at hc hl ⊢
 have HN:=zh hN
 have HC:=zh hc
 have H0:=zh h0
 clear hN hc h0
 go_enter Tryz.func130,Tryz.ntmps130
 go_wp2_with fail
 go_loopg [8] N (fun gg s8 wr=>∃j:Nat,s8= .int .i64 j∧j≤N∧gg=N -j∧Hid (I j wr))
 case atStart=>exact ⟨0,rfl,Nat.zero_le _,rfl,H0⟩
 case round=>
  clear H0
  obtain⟨j,rfl,hj,rfl,HI⟩:=hrel
  by_cases hlt:j<N
  ·obtain⟨x,hx⟩:∃x,l[j]? =some x:=⟨_,List.getElem?_eq_getElem (by rw [HN.out];exact hlt)⟩
   obtain⟨f,hs,hcall⟩:=HC.out j x wr hx HI.out
   obtain⟨b,oo,aa,rfl,hblt,⟨x0,x1,x2,x3,x4,x5⟩,hbdx,hsl⟩:=hs.get hx
   replace x0:=(zN x0).2
   replace x1:=(zN x1).2
   replace x2:=(zN x2).2
   replace x3:=(zN x3).2
   replace x4:=(zN x4).2
   replace x5:=(zN x5).2
   obtain⟨pa,ca,rfl,_⟩:=hsl.form
   obtain⟨AX,hAX⟩:∃N,x.args.length=N:=⟨_,rfl⟩
   rw [hAX] at x5
   have b3j:(j:Int)<(N:Int):=by omega
   have b0j:(0:Int)≤(j:Int):=by omega
   obtain⟨w4,HW4⟩:∃q,Hid (q=wr.alloc (.cells #[.int .i64 x.kind,.int .i64 x.op,.int .i64 x.int,.string x.name,.bool x.at_,.slice pa AX ca] 37)):=⟨_,zh rfl⟩
   have hb4:Below wr.heap.size wr w4:=by rw [HW4.out];exact zD _ _
   have KC:=zh (hcall (.slice pa AX ca) w4 hbdx hb4 (by rw [hAX] at hsl;exact hsl))
   unfold exprV at KC
   clear hx hbdx hsl hAX hb4 HI hcall hs
   go_wp2_with fail
   rw [←HW4.out]
   clear HW4
   refine KC.out.mono ?_
   rintro e w5 ⟨rfl,hi5⟩
   have HI5:=zh hi5
   clear hi5 KC x0 x1 x2 x3 x4 x5
   go_wp2_with fail
   go_roundg (N -(j+1))
   case measure=>omega
   case rel=>exact ⟨j+1,by go_num,by omega,rfl,HI5⟩
  ·obtain rfl:j=N:=by omega
   go_wp2_with fail
   go_end0
   exact⟨rfl,HI.out⟩
theorem zKR:∀l:List Tr.E,l.length≤Co.wEs l
 | []=>Nat.zero_le _
 |e::r=>by rw [Co.wEs,List.length_cons];have:=zKR r;have:=Co.zSU e;omega
theorem zLZ:∀ {l:List Tr.E} {j:Nat} {x:Tr.E},l[j]? =some x→Co.wEs (l.take j)+Co.wE x≤Co.wEs l
 | [],j,x,h=>by simp at h
 |y::r,0,x,h=>by cases h;rw [List.take_zero,Co.wEs,Co.wEs];omega
 |y::r,j+1,x,h=>by
  rw [List.take_succ_cons,Co.wEs,Co.wEs]
  have:=zLZ (l:=r) (j:=j) (x:=x) (by simpa using h)
  omega
theorem zP7 (cs:List Tr.C) (fs:List ByteArray):∀(l:List Tr.E) (g:Co.G) (x:Tr.E),Co.gEs cs fs g (l++ [x])=Co.gE cs fs (Co.gEs cs fs g l) x
 | [],g,x=>by rw [List.nil_append,Co.gEs,Co.gEs,Co.gEs]
 |y::r,g,x=>by rw [List.cons_append,Co.gEs,Co.gEs,zP7 cs fs r]
def EC (B0 gb:Nat) (cs:List Tr.C) (cl:Tr.C) (pv fv mv:Value) (d:Nat):Prop:=∀(e:Tr.E) (g:Co.G) (cv nv vv:Value) (w:World) (a:Value) (n:Nat),e.deep≤d→Tr.validE e=true→BdE e→GS B0 gb cs cl pv fv mv g cv nv vv w→B0≤w.heap.size→(Co.Bd n g∧n+Co.wE e≤900000)→SlE (hide (upL 0 (owl gb cv nv vv)) w) a e.args→
    Calls Tryz.prog 132 #[.pointer (some ⟨gb,0,none⟩),exprV e a] w (GQ B0 gb cs cl pv fv mv (Co.gE cs cl.fields g e) cv nv vv w)
theorem EC.less {B0 gb:Nat} {cs:List Tr.C} {cl:Tr.C} {pv fv mv:Value} {d d':Nat} (h:EC B0 gb cs cl pv fv mv d) (hd:d'≤d):EC B0 gb cs cl pv fv mv d':=fun e g cv nv vv w a n h1=>h e g cv nv vv w a n (Nat.le_trans h1 hd)
def RE (a:Value) (l:List Tr.E):World→Prop:=fun W=>SlE W a l
theorem re_mn {a:Value} {l:List Tr.E}:Mn (RE a l):=fun _ _ hi h=>SlE.inc h hi
section
variable {B0 gb:Nat} {cs:List Tr.C} {cl:Tr.C} {pv fv mv:Value} {g:Co.G} {cv nv vv:Value} {w W:World} {o0:List Nat} {bs:List Bk} {os:List (World→Prop)}
theorem Mg.sight (h:Mg B0 gb cs cl pv fv mv w o0 g cv nv vv bs os W) (i:Nat) {a:Value} {l:List Tr.E} (hi:os[i]? =some (RE a l)):SlE (hide (upL 0 (owl gb cv nv vv)) W) a l:=
 SlE.inc (h.o i hi) (zEH (Nat.le_refl _) (fun _ hb=>List.mem_append.2 (.inl hb)))
theorem Mg.elem (h:Mg B0 gb cs cl pv fv mv w o0 g cv nv vv bs os W) (i:Nat) {p:Option Addr} {N c:Nat} {l:List Tr.E} (hi:os[i]? =some (RE (.slice p N c) l)) {j:Nat} {x:Tr.E} (hx:l[j]? =some x):
 ∃b oo,p=some ⟨b,oo,none⟩∧b<W.heap.size∧∃pa ca,CellsE W b (oo+j*6) x (.slice pa x.args.length ca)∧BdE x∧SlE (hide (upL 0 (owl gb cv nv vv)) W) (.slice pa x.args.length ca) x.args:=by
 obtain⟨b,oo,aa,hp,hb,hc,hbd,hs⟩:=(h.sight i hi).get hx
 obtain⟨pa,ca,rfl,_⟩:=hs.form
 rw [z6] at hb
 exact⟨b,oo,hp,hb,pa,ca,⟨(zN hc.1).2,(zN hc.2.1).2,(zN hc.2.2.1).2,(zN hc.2.2.2.1).2,(zN hc.2.2.2.2.1).2,(zN hc.2.2.2.2.2).2⟩,hbd,hs⟩
theorem Mg.elemE (h:Mg B0 gb cs cl pv fv mv w o0 g cv nv vv bs os W) (i:Nat) {b oo N c n d:Nat} {l:List Tr.E} (hi:os[i]? =some (RE (.slice (some ⟨b,oo,none⟩) N c) l)) {j:Nat} {x:Tr.E} (hx:l[j]? =some x) (hE:EC B0 gb cs cl pv fv mv d) (hd:x.deep≤d) (hv:Tr.validE x=true) (hn:Co.Bd n g∧n+Co.wE x≤900000):
 b<W.heap.size∧∃pa ca,CellsE W b (oo+j*6) x (.slice pa x.args.length ca)∧Calls Tryz.prog 132 #[.pointer (some ⟨gb,0,none⟩),exprV x (.slice pa x.args.length ca)] W (GQ B0 gb cs cl pv fv mv (Co.gE cs cl.fields g x) cv nv vv W):=by
 obtain⟨b',oo',hp,hb,pa,ca,hc,hbd,hs⟩:=h.elem i hi hx
 cases hp
 exact⟨hb,pa,ca,hc,hE x g cv nv vv W _ n hd hv hbd h.q (Nat.le_trans h.hB h.le) hn hs⟩
theorem Mg.eachE (h:Mg B0 gb cs cl pv fv mv w o0 g cv nv vv bs os W) (i:Nat) {v:Value} {n d:Nat} {l:List Tr.E} (hi:os[i]? =some (RE v l)) (hE:EC B0 gb cs cl pv fv mv d) (hd:∀(j:Nat) (x:Tr.E),l[j]? =some x→x.deep≤d) (hv:Tr.validEs l=true) (hn:Co.Bd n g∧n+Co.wEs l≤900000):
 Calls Tryz.prog 130 #[v,.func (.func 132) #[.pointer (some ⟨gb,0,none⟩)] #[]] W (GQ B0 gb cs cl pv fv mv (Co.gEs cs cl.fields g l) cv nv vv W):=by
 have hI:=zQV (PP:=gb) (I:=fun j W'=>∃cv' nv' vv',Mg B0 gb cs cl pv fv mv W (owl gb cv nv vv) (Co.gEs cs cl.fields g (l.take j)) cv' nv' vv' [] [RE v l] W') l (v:=v) (w:=W) ?_ ?_ ?_ ?_
 ·refine hI.mono ?_
  rintro e w' ⟨rfl,c,m,u,hm⟩
  rw [List.take_of_length_le (Nat.le_refl _)] at hm
  exact Mg.fin hm
 ·exact Nat.le_trans (Nat.le_trans (zKR l) (Nat.le_trans (Nat.le_add_left _ n) hn.2)) (by decide)
 ·refine⟨cv,nv,vv,?_⟩
  rw [List.take_zero,Co.gEs]
  exact Mg.start h.q (Nat.le_trans h.hB h.le) (fun r hr=>by rw [List.mem_singleton.1 hr];exact⟨re_mn,h.sight i hi⟩)
 ·obtain⟨p,c,e,_⟩:=(h.sight i hi).form
  exact⟨p,c,e⟩
 ·rintro j x W1 hx ⟨c,m,u,hm⟩
  refine⟨_,hm.sight 0 rfl,fun a W2 hbd hb hs=>?_⟩
  have hm2:=hm.below hb
  have hs2:SlE (hide (upL 0 (owl gb c m u)) W2) a x.args:=SlE.inc hs (by have h8:=(Gr.below hb (owl gb c m u)).inc [] (V:=0);rw [List.append_nil] at h8;exact h8)
  have hbt:=Co.zB7 cs cl.fields n g (l.take j) hn.1
  have hwt:Co.wEs (l.take j)+Co.wE x≤Co.wEs l:=zLZ hx
  refine(hE x _ c m u W2 a (n+Co.wEs (l.take j)) (hd j x hx) (zG hv hx) hbd hm2.q (Nat.le_trans hm2.hB hm2.le) ⟨hbt,by omega⟩ hs2).mono ?_
  rintro e w' hp
  obtain⟨rfl,c',m',u',hm3⟩:=Mg.done hm2 hp
  refine⟨rfl,c',m',u',?_⟩
  have e1:l.take (j+1)=l.take j++ [x]:=by rw [List.take_add_one,hx];rfl
  rw [e1,zP7]
  exact hm3.out
end
set_option maxRecDepth 100000 in
set_option maxHeartbeats 16000000 in
theorem zPQ {B0 gb:Nat} {cs:List Tr.C} {cl:Tr.C} {pv fv mv:Value} {g:Co.G} {cv nv vv:Value} {w:World} {d:Nat} (hE:EC B0 gb cs cl pv fv mv d) (e:Tr.E) (hk:e.kind=10) (hd:e.deep≤d+1) (hv:Tr.validE e=true) (h:GS B0 gb cs cl pv fv mv g cv nv vv w) (hB:B0≤w.heap.size) {n:Nat} (hbd:Co.Bd n g∧n+Co.wEs e.args+9≤900000) (a:Value) (hS:SlE (hide (upL 0 (owl gb cv nv vv)) w) a e.args) (op endv:Int):
 Calls Tryz.prog 187 #[.pointer (some ⟨gb,0,none⟩),exprV e a,.int .i64 op,.int .i64 endv] w (GQ B0 gb cs cl pv fv mv (Co.gL cs cl.fields g op endv e.args) cv nv vv w):=by
 obtain⟨k,o,i,nm,at_,l⟩:=e
 subst hk
 have hl2:l.length=2:=by
  have h9:=(Co.zF hv).2
  unfold Tr.okE at h9
  simp at h9
  omega
 obtain⟨x,y,rfl⟩:∃x y,l= [x,y]:=by
  match l,hl2 with
  | [x,y],_=>exact ⟨x,y,rfl⟩
 have hvx:=zG (Co.zF hv).1 (j:=0) (e:=x) rfl
 have hvy:=zG (Co.zF hv).1 (j:=1) (e:=y) rfl
 have hdx:=Tr.E.deep_args hd (j:=0) (x:=x) rfl
 have hdy:=Tr.E.deep_args hd (j:=1) (x:=y) rfl
 have HT:Hid (n+(Co.wE x+Co.wE y)+9≤900000):=zh (by have h9:=hbd.2;change n+Co.wEs [x,y]+9≤900000 at h9;rw [Co.wEs,Co.wEs,Co.wEs] at h9;omega)
 have HEC:=zh hE
 have HVX:=zh hvx
 have HVY:=zh hvy
 have HDX:=zh hdx
 have HDY:=zh hdy
 have HBD:Hid (Co.Bd n g∧n≤900000):=zh ⟨hbd.1,by have:=hbd.2;omega⟩
 obtain⟨p,c,rfl,_⟩:=SlE.form hS
 have HS:Hid (SlE (hide (upL 0 (owl gb cv nv vv)) w) (.slice p 2 c) [x,y]):=zh hS
 obtain⟨b,oo,rfl⟩:∃b oo,p=some ⟨b,oo,none⟩:=by
  obtain⟨b,oo,_,e,_⟩:=SlE.get hS (j:=0) (e:=x) rfl
  exact⟨b,oo,e⟩
 have C0:=zh (Mg.start (os:= [RE (.slice (some ⟨b,oo,none⟩) 2 c) [x,y]]) h hB (fun r hr=>by rw [List.mem_singleton.1 hr];exact⟨re_mn,HS.out⟩))
 clear hd hvx hvy hdx hdy hbd hE hS HS h hB hv hl2
 obtain⟨X,hX⟩:∃q,Co.gL cs cl.fields g op endv [x,y]=q:=⟨_,rfl⟩
 unfold exprV
 simp only [Tr.E.kind,Tr.E.op,Tr.E.int,Tr.E.name,Tr.E.at_,Tr.E.args]
 rw [hX]
 have HX:Hid (Co.patch (Co.emit (Co.patch ({ Co.emit (Co.emit (Co.gE cs cl.fields (Co.emit (Co.gE cs cl.fields g x) op 0 0 1 0) y) 17 0 0 1 1) 18 0 0 0 0 with depth:=(Co.emit (Co.emit (Co.gE cs cl.fields (Co.emit (Co.gE cs cl.fields g x) op 0 0 1 0) y) 17 0 0 1 1) 18 0 0 0 0).depth -1 }) (Co.gE cs cl.fields g x).code.length) 0 endv 0 0 1) (Co.emit (Co.gE cs cl.fields (Co.emit (Co.gE cs cl.fields g x) op 0 0 1 0) y) 17 0 0 1 1).code.length=X):=zh (by rw [←hX,Co.gL,Co.gEs,Co.gEs])
 clear hX
 obtain⟨E,w1,HX1,HW1,hx1,C1⟩:=C0.out.boxE #[.int .i64 10,.int .i64 o,.int .i64 i,.string nm,.bool at_,.slice (some ⟨b,oo,none⟩) 2 c] 37
 go_enter Tryz.func187,Tryz.ntmps187
 go_upto_region 1 with fail
 rw [←HX1.out,←HW1.out]
 clear HX1 HW1 C0
 obtain⟨hlx,pax,cax,⟨zx_0,zx_1,zx_2,zx_3,zx_4,zx_5⟩,hKx⟩:=Mg.elemE C1.out 0 rfl (j:=0) (x:=x) rfl HEC.out HDX.out HVX.out ⟨HBD.out.1,by have h9:=HT.out;omega⟩
 obtain⟨ANx,hANx⟩:∃q,x.args.length=q:=⟨_,rfl⟩
 rw [hANx] at hKx zx_5
 unfold exprV at hKx
 simp only [Nat.zero_mul,Nat.add_zero] at zx_0 zx_1 zx_2 zx_3 zx_4 zx_5
 have HKx:=zh hKx
 clear hANx hKx
 have q0:=cells6 (C1.out.b 0 rfl)
 go_wp2_with fail
 refine HKx.out.mono ?_
 rintro e w2 hp2
 obtain⟨rfl,cv2,nv2,vv2,C2⟩:=Mg.done C1.out hp2
 clear hp2 C1
 clear HKx hlx zx_0 zx_1 zx_2 zx_3 zx_4 zx_5 q0
 have HB3:Hid (Co.Bd (n+Co.wE x) (Co.gE cs cl.fields (g) x)∧n+Co.wE x≤900000):=zh ⟨Co.gE_bd cs cl.fields _ _ x HBD.out.1,by have h9:=HT.out;omega⟩
 clear HBD
 go_wp2_with fail
 refine(zEF C2.out.q (Nat.le_trans C2.out.hB C2.out.le) HB3.out (op) (1) ⟨by omega,by omega⟩).mono ?_
 rintro e w4 hp4
 obtain⟨X1,A1,cv4,nv4,vv4,rfl,C4⟩:=Mg.jumped C2.out hp4
 clear hp4 C2
 unfold labV
 have HB5:Hid (Co.Bd (n+Co.wE x+1+1) (Co.emit (Co.gE cs cl.fields (g) x) (op) 0 0 (1) 0)∧n+Co.wE x+1+1≤900000):=zh ⟨HB3.out.1.em (m:=1) ⟨by omega,by omega⟩ ⟨by omega,by omega⟩,by have h9:=HT.out;omega⟩
 clear HB3
 obtain⟨hly,pay,cay,⟨zy_0,zy_1,zy_2,zy_3,zy_4,zy_5⟩,hKy⟩:=Mg.elemE C4.out 0 rfl (j:=1) (x:=y) rfl HEC.out HDY.out HVY.out ⟨HB5.out.1,by have h9:=HT.out;omega⟩
 obtain⟨ANy,hANy⟩:∃q,y.args.length=q:=⟨_,rfl⟩
 rw [hANy] at hKy zy_5
 unfold exprV at hKy
 simp only [Nat.one_mul] at zy_0 zy_1 zy_2 zy_3 zy_4 zy_5
 have HKy:=zh hKy
 clear hANy hKy
 have q2:=cells6 (C4.out.b 2 rfl)
 go_wp2_with fail
 refine HKy.out.mono ?_
 rintro e w6 hp6
 obtain⟨rfl,cv6,nv6,vv6,C6⟩:=Mg.done C4.out hp6
 clear hp6 C4
 clear HKy hly zy_0 zy_1 zy_2 zy_3 zy_4 zy_5 q2
 have HB7:Hid (Co.Bd (n+Co.wE x+1+1+Co.wE y) (Co.gE cs cl.fields (Co.emit (Co.gE cs cl.fields (g) x) (op) 0 0 (1) 0) y)∧n+Co.wE x+1+1+Co.wE y≤900000):=zh ⟨Co.gE_bd cs cl.fields _ _ y HB5.out.1,by have h9:=HT.out;omega⟩
 clear HB5
 go_wp2_with fail
 refine(zW C6.out.q (Nat.le_trans C6.out.hB C6.out.le) HB7.out (17) (0) (0) (1) (1) ⟨by omega,by omega⟩ ⟨by omega,by omega⟩).mono ?_
 rintro e w8 hp8
 obtain⟨rfl,cv8,nv8,vv8,C8⟩:=Mg.done C6.out hp8
 clear hp8 C6
 have HB9:Hid (Co.Bd (n+Co.wE x+1+1+Co.wE y+1+1) (Co.emit (Co.gE cs cl.fields (Co.emit (Co.gE cs cl.fields (g) x) (op) 0 0 (1) 0) y) (17) (0) (0) (1) (1))∧n+Co.wE x+1+1+Co.wE y+1+1≤900000):=zh ⟨HB7.out.1.em (m:=1) ⟨by omega,by omega⟩ ⟨by omega,by omega⟩,by have h9:=HT.out;omega⟩
 clear HB7
 go_wp2_with fail
 refine(zEF C8.out.q (Nat.le_trans C8.out.hB C8.out.le) HB9.out (18) (0) ⟨by omega,by omega⟩).mono ?_
 rintro e w10 hp10
 obtain⟨X2,A2,cv10,nv10,vv10,rfl,C10⟩:=Mg.jumped C8.out hp10
 clear hp10 C8
 unfold labV
 have HB11:Hid (Co.Bd (n+Co.wE x+1+1+Co.wE y+1+1+0+1) (Co.emit (Co.emit (Co.gE cs cl.fields (Co.emit (Co.gE cs cl.fields (g) x) (op) 0 0 (1) 0) y) (17) (0) (0) (1) (1)) (18) 0 0 (0) 0)∧n+Co.wE x+1+1+Co.wE y+1+1+0+1≤900000):=zh ⟨HB9.out.1.em (m:=0) ⟨by omega,by omega⟩ ⟨by omega,by omega⟩,by have h9:=HT.out;omega⟩
 clear HB9
 have gl:=lt_of_block C10.out.q.blk
 have g9:=gcell C10.out.q (j:=9) rfl
 have gf9:=gfree C10.out.q 9
 obtain⟨h1,h2⟩:=GS.put C10.out.q 9 (.int .i64 ((Co.emit (Co.emit (Co.gE cs cl.fields (Co.emit (Co.gE cs cl.fields (g) x) (op) 0 0 (1) 0) y) (17) (0) (0) (1) (1)) (18) 0 0 (0) 0).depth -1)) (g':= { Co.emit (Co.emit (Co.gE cs cl.fields (Co.emit (Co.gE cs cl.fields (g) x) (op) 0 0 (1) 0) y) (17) (0) (0) (1) (1)) (18) 0 0 (0) 0 with depth:=(Co.emit (Co.emit (Co.gE cs cl.fields (Co.emit (Co.gE cs cl.fields (g) x) (op) 0 0 (1) 0) y) (17) (0) (0) (1) (1)) (18) 0 0 (0) 0).depth -1 }) rfl rfl rfl rfl
 obtain⟨w12,HW⟩:∃q,Hid (q=w10.setCell ⟨gb,9,none⟩ (.int .i64 ((Co.emit (Co.emit (Co.gE cs cl.fields (Co.emit (Co.gE cs cl.fields (g) x) (op) 0 0 (1) 0) y) (17) (0) (0) (1) (1)) (18) 0 0 (0) 0).depth -1))):=⟨_,zh rfl⟩
 have C12:=zh (Mg.move C10.out h1 h2)
 rw [←HW.out] at C12
 clear h1 h2
 have hdw:wrap64 ((Co.emit (Co.emit (Co.gE cs cl.fields (Co.emit (Co.gE cs cl.fields (g) x) (op) 0 0 (1) 0) y) (17) (0) (0) (1) (1)) (18) 0 0 (0) 0).depth -1)=(Co.emit (Co.emit (Co.gE cs cl.fields (Co.emit (Co.gE cs cl.fields (g) x) (op) 0 0 (1) 0) y) (17) (0) (0) (1) (1)) (18) 0 0 (0) 0).depth -1:=by have h7:=HB11.out.1.dep;have h8:=HB11.out.2;unfold wrap64;omega
 go_upto_region 7 with fail
 rw [←HW.out]
 clear HW C10 gl g9 gf9
 have HB13:Hid (Co.Bd (n+Co.wE x+1+1+Co.wE y+1+1+0+1+1) ({ Co.emit (Co.emit (Co.gE cs cl.fields (Co.emit (Co.gE cs cl.fields (g) x) (op) 0 0 (1) 0) y) (17) (0) (0) (1) (1)) (18) 0 0 (0) 0 with depth:=(Co.emit (Co.emit (Co.gE cs cl.fields (Co.emit (Co.gE cs cl.fields (g) x) (op) 0 0 (1) 0) y) (17) (0) (0) (1) (1)) (18) 0 0 (0) 0).depth -1 })∧n+Co.wE x+1+1+Co.wE y+1+1+0+1+1≤900000):=zh ⟨HB11.out.1.less,by have h9:=HT.out;omega⟩
 clear HB11
 clear hdw
 have HLY:Hid ((Co.emit (Co.gE cs cl.fields g x) op 0 0 1 0).code.length≤(Co.gE cs cl.fields (Co.emit (Co.gE cs cl.fields g x) op 0 0 1 0) y).code.length):=zh (Co.zBU cs cl.fields _ y).len
 go_wp2_with fail
 refine(zB1 C12.out.q HB13.out (k:=(Co.gE cs cl.fields g x).code.length) (by have h9:=HLY.out;show _<(Co.emit (Co.emit (Co.gE cs cl.fields (Co.emit (Co.gE cs cl.fields g x) op 0 0 1 0) y) 17 0 0 1 1) 18 0 0 0 0).code.length;rw [Co.zO] at h9 ⊢;rw [Co.zO];omega) (C12.out.b 3 rfl) (C12.out.b 2 rfl) (C12.out.lts (q:=X1) (by simp)).2.2 (C12.out.lts (q:=A1) (by simp)).2.2).mono ?_
 rintro e w14 hp14
 obtain⟨rfl,cv14,nv14,vv14,C14⟩:=Mg.done C12.out hp14
 clear hp14 C12
 have HB15:Hid (Co.Bd (n+Co.wE x+1+1+Co.wE y+1+1+0+1+1) (Co.patch ({ Co.emit (Co.emit (Co.gE cs cl.fields (Co.emit (Co.gE cs cl.fields (g) x) (op) 0 0 (1) 0) y) (17) (0) (0) (1) (1)) (18) 0 0 (0) 0 with depth:=(Co.emit (Co.emit (Co.gE cs cl.fields (Co.emit (Co.gE cs cl.fields (g) x) (op) 0 0 (1) 0) y) (17) (0) (0) (1) (1)) (18) 0 0 (0) 0).depth -1 }) ((Co.gE cs cl.fields g x).code.length))∧n+Co.wE x+1+1+Co.wE y+1+1+0+1+1≤900000):=zh ⟨HB13.out.1.patch _,by have h9:=HT.out;omega⟩
 clear HB13
 go_wp2_with fail
 refine(zW C14.out.q (Nat.le_trans C14.out.hB C14.out.le) HB15.out (0) (endv) (0) (0) (1) ⟨by omega,by omega⟩ ⟨by omega,by omega⟩).mono ?_
 rintro e w16 hp16
 obtain⟨rfl,cv16,nv16,vv16,C16⟩:=Mg.done C14.out hp16
 clear hp16 C14
 have HB17:Hid (Co.Bd (n+Co.wE x+1+1+Co.wE y+1+1+0+1+1+1+1) (Co.emit (Co.patch ({ Co.emit (Co.emit (Co.gE cs cl.fields (Co.emit (Co.gE cs cl.fields (g) x) (op) 0 0 (1) 0) y) (17) (0) (0) (1) (1)) (18) 0 0 (0) 0 with depth:=(Co.emit (Co.emit (Co.gE cs cl.fields (Co.emit (Co.gE cs cl.fields (g) x) (op) 0 0 (1) 0) y) (17) (0) (0) (1) (1)) (18) 0 0 (0) 0).depth -1 }) ((Co.gE cs cl.fields g x).code.length)) (0) (endv) (0) (0) (1))∧n+Co.wE x+1+1+Co.wE y+1+1+0+1+1+1+1≤900000):=zh ⟨HB15.out.1.em (m:=1) ⟨by omega,by omega⟩ ⟨by omega,by omega⟩,by have h9:=HT.out;omega⟩
 clear HB15
 go_wp2_with fail
 refine(zB1 C16.out.q HB17.out (k:=(Co.emit (Co.gE cs cl.fields (Co.emit (Co.gE cs cl.fields g x) op 0 0 1 0) y) 17 0 0 1 1).code.length) (by rw [Co.zO (Co.patch ({ Co.emit (Co.emit (Co.gE cs cl.fields (Co.emit (Co.gE cs cl.fields g x) op 0 0 1 0) y) 17 0 0 1 1) 18 0 0 0 0 with depth:=(Co.emit (Co.emit (Co.gE cs cl.fields (Co.emit (Co.gE cs cl.fields g x) op 0 0 1 0) y) 17 0 0 1 1) 18 0 0 0 0).depth -1 }) (Co.gE cs cl.fields g x).code.length),Co.zBC ({ Co.emit (Co.emit (Co.gE cs cl.fields (Co.emit (Co.gE cs cl.fields g x) op 0 0 1 0) y) 17 0 0 1 1) 18 0 0 0 0 with depth:=(Co.emit (Co.emit (Co.gE cs cl.fields (Co.emit (Co.gE cs cl.fields g x) op 0 0 1 0) y) 17 0 0 1 1) 18 0 0 0 0).depth -1 })];show _<(Co.emit (Co.emit (Co.gE cs cl.fields (Co.emit (Co.gE cs cl.fields g x) op 0 0 1 0) y) 17 0 0 1 1) 18 0 0 0 0).code.length+1;rw [Co.zO (Co.emit (Co.gE cs cl.fields (Co.emit (Co.gE cs cl.fields g x) op 0 0 1 0) y) 17 0 0 1 1)];omega) (C16.out.b 1 rfl) (C16.out.b 0 rfl) (C16.out.lts (q:=X2) (by simp)).2.2 (C16.out.lts (q:=A2) (by simp)).2.2).mono ?_
 rintro e w18 hp18
 obtain⟨rfl,cv18,nv18,vv18,C18⟩:=Mg.done C16.out hp18
 clear hp18 C16
 have HB19:Hid (Co.Bd (n+Co.wE x+1+1+Co.wE y+1+1+0+1+1+1+1) (Co.patch (Co.emit (Co.patch ({ Co.emit (Co.emit (Co.gE cs cl.fields (Co.emit (Co.gE cs cl.fields (g) x) (op) 0 0 (1) 0) y) (17) (0) (0) (1) (1)) (18) 0 0 (0) 0 with depth:=(Co.emit (Co.emit (Co.gE cs cl.fields (Co.emit (Co.gE cs cl.fields (g) x) (op) 0 0 (1) 0) y) (17) (0) (0) (1) (1)) (18) 0 0 (0) 0).depth -1 }) ((Co.gE cs cl.fields g x).code.length)) (0) (endv) (0) (0) (1)) ((Co.emit (Co.gE cs cl.fields (Co.emit (Co.gE cs cl.fields g x) op 0 0 1 0) y) 17 0 0 1 1).code.length))∧n+Co.wE x+1+1+Co.wE y+1+1+0+1+1+1+1≤900000):=zh ⟨HB17.out.1.patch _,by have h9:=HT.out;omega⟩
 clear HB17
 go_wp2_with fail
 go_end0
 have h9:=Mg.fin C18.out
 rw [HX.out] at h9
 exact h9
end Cw
end Go.Proofs.YtcnmfcgmnkncaaaGreatDoor
