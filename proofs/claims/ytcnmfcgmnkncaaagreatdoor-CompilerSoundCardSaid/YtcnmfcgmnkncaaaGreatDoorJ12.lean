/-
  Several texts in one: RegTake, CoSt1, CoExprB.
-/
import Derived.Deep.RegionHeld
import Derived.Test.YtcnmfcgmnkncaaaGreatDoorJ9
import Derived.Test.YtcnmfcgmnkncaaaGreatDoorJ11
namespace Go.Proofs.YtcnmfcgmnkncaaaGreatDoor
section
variable {P:Program} {ops:Array Oper} {Q:Exit→Act→World→Prop} {md:Region.Mode} {S T:World→Prop} {k:Nat}
def wpAnyT (P:Program) (md:Region.Mode) (ops:Array Oper) (Q:Exit→Act→World→Prop) (S T:World→Prop) (k:Nat):Nat→Array Bool→Act→World→Prop
 |0,l,a,w=>wpAnyH P md ops Q S 0 l a w
 |f+1,l,a,w=>(Region.ready md ops l= []→Q .normal a w)∧∀i∈Region.ready md ops l,wpOp P ops Q i (fun a' w'=>if i=k then S w'∧wpAnyH P md ops Q S f (l.setIfInBounds i true) a' w' else(S w'∧T w')∧wpAnyT P md ops Q S T k f (l.setIfInBounds i true) a' w') a w
theorem zFY:∀(f:Nat) (l:Array Bool) (a:Act) (w:World),wpAnyT P md ops Q S T k f l a w→wpAnyH P md ops Q S f l a w
 |0,_,_,_,h=>h
 |f+1,_,_,_,h=>⟨h.1,fun i hi=>wpOp_mono (fun a' w' h'=>by
   by_cases hk:i=k
   ·rw [if_pos hk] at h';exact h'
   ·rw [if_neg hk] at h';exact⟨h'.1.1,zFY f _ a' w' h'.2⟩) (h.2 i hi)⟩
theorem zI1 {i:Nat} {oi:Oper} {v:Value} (hi:ops[i]? =some oi) (hsel:∀(j:Nat) (o:Oper) cs b,ops[j]? =some o→o.op≠ .select cs b) (hQ:∀c a w,Q (.panic c) (a.put oi.dst v) w→Q (.panic c) a w) (hik:i≠k) (hk:∀o,ops[k]? =some o→∃e∈o.after,Region.binds md e=true∧e.on=i):
 ∀(fuel:Nat) (l:Array Bool) (a:Act) (w:World),(∀j oj,ops[j]? =some oj→j≠i→l.getD j true=false→(∀e∈oj.after,Region.binds md e=true→e.on≠i)→oi.apart ops oj=true)→
  i∈Region.ready md ops l→YieldsIf P ops (fun w=>S w∧T w) oi v a→S w∧T w→wpAnyT P md ops Q S T k fuel (l.setIfInBounds i true) (a.put oi.dst v) w→wpAnyT P md ops Q S T k (fuel+1) l a w:=by
 intro fuel
 induction fuel with
 |zero=>
  intro l a w _ hr hy hS H
  refine⟨fun h=>(by rw [h] at hr;cases hr),fun j hj=>?_⟩
  by_cases hji:j=i
  ·subst hji;exact hy.wpOp hi hS (by rw [if_neg hik];exact⟨hS,H⟩)
  ·have:=ready_mono hj hji
   rw [H.1] at this
   cases this
 |succ fuel ih=>
  intro l a w hfree hr hy hS H
  refine⟨fun h=>(by rw [h] at hr;cases hr),fun j hj=>?_⟩
  by_cases hji:j=i
  ·subst hji;exact hy.wpOp hi hS (by rw [if_neg hik];exact⟨hS,H⟩)
  ·have h1:=H.2 j (ready_mono hj hji)
   obtain⟨hjun,oj,hoj,hall⟩:=mem_ready.1 hj
   have hnot:∀e∈oj.after,Region.binds md e=true→e.on≠i:=fun e he hb heq=>by
    have h1:=hall e he hb
    have h0:=(mem_ready.1 hr).1
    rw [heq] at h1
    rcases Nat.lt_or_ge i l.size with h'|h'
    ·simp [h'] at h0 h1;rw [h0] at h1;cases h1
    ·simp [Array.getElem?_eq_none h'] at h1
   have hjk:j≠k:=fun e=>by
    subst e
    obtain⟨e,he,hb,h⟩:=hk oj hoj
    exact hnot e he hb h
   simp only [if_neg hjk] at h1 ⊢
   have h2:=wpOp_putIf hoj (hfree j oj hoj hji hjun hnot) (fun cs b=>hsel i oi cs b hi) (fun cs b=>hsel j oj cs b hoj) hQ hy h1
   have hfree':∀q oq,ops[q]? =some oq→q≠i→(l.setIfInBounds j true).getD q true=false→(∀e∈oq.after,Region.binds md e=true→e.on≠i)→oi.apart ops oq=true:=fun q oq hq hqi hun hno=>by
    refine hfree q oq hq hqi ?_ hno
    by_cases hjq:j=q
    ·subst hjq;exact hjun
    ·rw [getD_set_ne true hjq] at hun;exact hun
   refine wpOp_mono (fun a' w' h3=>⟨h3.2.1,ih (l.setIfInBounds j true) a' w' hfree' (ready_mono hr (Ne.symm hji)) h3.1 h3.2.1 ?_⟩) h2
   rw [Array.setIfInBounds_comm _ _ hji]
   exact h3.2.2
def waitsB (md:Region.Mode) (ops:Array Oper) (k i:Nat):Bool:=((ops[k]?).map fun o=>o.after.any fun e=>Region.binds md e && e.on == i).getD true
theorem zKQ {i:Nat} (h:waitsB md ops k i=true):∀o,ops[k]? =some o→∃e∈o.after,Region.binds md e=true∧e.on=i:=fun o ho=>by
 unfold waitsB at h
 rw [ho] at h
 simp only [Option.map_some,Option.getD_some] at h
 rw [Array.any_eq_true] at h
 obtain⟨n,hn,h1⟩:=h
 rw [Bool.and_eq_true,beq_iff_eq] at h1
 exact⟨_,Array.getElem_mem hn,h1.1,h1.2⟩
theorem zKO {i:Nat} {oi:Oper} {v:Value} {fuel:Nat} {l:Array Bool} {a:Act} {w:World} (hi:ops[i]? =some oi) (hs:Region.noSelect ops=true) (hf:Region.free md ops l i=true) (hr:(Region.ready md ops l).contains i=true) (hik:i≠k) (hk:waitsB md ops k i=true)
 (hQ:∀c a w,Q (.panic c) (a.put oi.dst v) w→Q (.panic c) a w) (hy:YieldsIf P ops (fun w=>S w∧T w) oi v a) (hS:S w∧T w) (h:wpAnyT P md ops Q S T k fuel (l.setIfInBounds i true) (a.put oi.dst v) w):wpAnyT P md ops Q S T k (fuel+1) l a w:=
 zI1 hi (Region.noSelect_spec hs) hQ hik (zKQ hk) fuel l a w (Region.free_spec hi hf) (by simpa using hr) hy hS h
theorem tT (i:Nat) (d:Option Nat) {fuel:Nat} {listed:Array Bool} {a:Act} {w:World} {x1:Op} {x2:TypeId} {x3:String} {x4:Array Edge} {x5:Option (Nat × Bool)} {v:Value} (h:wpAnyT P md ops Q S T k fuel (listed.setIfInBounds i true) (a.put d v) w)
 (hi:ops[i]? =some ⟨d,x1,x2,x3,x4,x5⟩:=by rfl) (hw:Region.wanted ⟨d,x1,x2,x3,x4,x5⟩ (yielded ops a.tmps)=true:=by rfl)
 (hv:∀w,S w∧T w→(execOp a.eval ⟨d,x1,x2,x3,x4,x5⟩).run P w= .ok (.value v) w:=by intro w hSw;(try dsimp only at hSw);go_simp;(try with_reducible rfl))
 (hs:Region.noSelect ops=true:=by kernel_rfl) (hf:Region.free md ops listed i=true:=by kernel_rfl) (hr:(Region.ready md ops listed).contains i=true:=by kernel_rfl) (hik:i≠k:=by decide) (hk:waitsB md ops k i=true:=by kernel_rfl)
 (hQ:∀c a w,Q (.panic c) (a.put d v) w→Q (.panic c) a w:=by exact fun _ _ _ h=>h) (hS:S w∧T w:=by first|trivial|assumption):wpAnyT P md ops Q S T k (fuel+1) listed a w:=
 zKO hi hs hf hr hik hk hQ (Or.inl ⟨hw,hv⟩) hS h
theorem tR1 (i:Nat) (d:Option Nat) {fuel:Nat} {listed:Array Bool} {a:Act} {w:World} {x1:Op} {x2:TypeId} {x3:String} {x4:Array Edge} {x5:Option (Nat × Bool)}
 (h:∀K':Act→World→Prop,Shut (∀a w,S w∧T w→(S w∧T w→wpAnyT P md ops Q S T k fuel (listed.setIfInBounds i true) a w)→K' a w)→if Region.wanted ⟨d,x1,x2,x3,x4,x5⟩ (yielded ops a.tmps)=true then Oper.wp P ⟨d,x1,x2,x3,x4,x5⟩ a w K' Q else K' (a.put d undef) w)
 (hr:Region.ready md ops listed= [i]:=by kernel_rfl) (hi:ops[i]? =some ⟨d,x1,x2,x3,x4,x5⟩:=by rfl) (hik:i≠k:=by decide):wpAnyT P md ops Q S T k (fuel+1) listed a w:=
 ⟨fun h0=>absurd (hr▸h0) (by simp),fun q hq=>by
  rw [hr,List.mem_singleton] at hq
  subst hq
  exact wpOp_step hi (fun K' hK=>h K' (fun a w hS hW=>hK a w (by rw [if_neg hik];exact⟨hS,hW hS⟩)))⟩
theorem tR2 (i:Nat) (d:Option Nat) (j:Nat) (d':Option Nat) {fuel:Nat} {listed:Array Bool} {a:Act} {w:World} {x1:Op} {x2:TypeId} {x3:String} {x4:Array Edge} {x5:Option (Nat × Bool)} {y1:Op} {y2:TypeId} {y3:String} {y4:Array Edge} {y5:Option (Nat × Bool)}
 (h:∀K':Act→World→Prop,Shut (∀a w,S w∧T w→(S w∧T w→wpAnyT P md ops Q S T k fuel (listed.setIfInBounds i true) a w)→K' a w)→if Region.wanted ⟨d,x1,x2,x3,x4,x5⟩ (yielded ops a.tmps)=true then Oper.wp P ⟨d,x1,x2,x3,x4,x5⟩ a w K' Q else K' (a.put d undef) w)
 (h':∀K':Act→World→Prop,Shut (∀a w,S w∧T w→(S w∧T w→wpAnyT P md ops Q S T k fuel (listed.setIfInBounds j true) a w)→K' a w)→if Region.wanted ⟨d',y1,y2,y3,y4,y5⟩ (yielded ops a.tmps)=true then Oper.wp P ⟨d',y1,y2,y3,y4,y5⟩ a w K' Q else K' (a.put d' undef) w)
 (hr:Region.ready md ops listed= [i,j]:=by kernel_rfl) (hi:ops[i]? =some ⟨d,x1,x2,x3,x4,x5⟩:=by rfl) (hj:ops[j]? =some ⟨d',y1,y2,y3,y4,y5⟩:=by rfl) (hik:i≠k:=by decide) (hjk:j≠k:=by decide):wpAnyT P md ops Q S T k (fuel+1) listed a w:=
 ⟨fun h0=>absurd (hr▸h0) (by simp),fun q hq=>by
  rw [hr,List.mem_cons,List.mem_singleton] at hq
  rcases hq with e|e<;>subst e
  ·exact wpOp_step hi (fun K' hK=>h K' (fun a w hS hW=>hK a w (by rw [if_neg hik];exact⟨hS,hW hS⟩)))
  ·exact wpOp_step hj (fun K' hK=>h' K' (fun a w hS hW=>hK a w (by rw [if_neg hjk];exact⟨hS,hW hS⟩)))⟩
theorem tK (i:Nat) (d:Option Nat) {fuel:Nat} {listed:Array Bool} {a:Act} {w:World} {x1:Op} {x2:TypeId} {x3:String} {x4:Array Edge} {x5:Option (Nat × Bool)}
 (h:∀K':Act→World→Prop,Shut (∀a w,S w→(S w→wpAnyH P md ops Q S fuel (listed.setIfInBounds i true) a w)→K' a w)→if Region.wanted ⟨d,x1,x2,x3,x4,x5⟩ (yielded ops a.tmps)=true then Oper.wp P ⟨d,x1,x2,x3,x4,x5⟩ a w K' Q else K' (a.put d undef) w)
 (hr:Region.ready md ops listed= [i]:=by kernel_rfl) (hi:ops[i]? =some ⟨d,x1,x2,x3,x4,x5⟩:=by rfl) (hik:i=k:=by rfl):wpAnyT P md ops Q S T k (fuel+1) listed a w:=
 ⟨fun h0=>absurd (hr▸h0) (by simp),fun q hq=>by
  rw [hr,List.mem_singleton] at hq
  subst hq
  exact wpOp_step hi (fun K' hK=>h K' (fun a w hS hW=>hK a w (by rw [if_pos hik];exact⟨hS,hW hS⟩)))⟩
end
end Go.Proofs.YtcnmfcgmnkncaaaGreatDoor
namespace Go.Proofs.YtcnmfcgmnkncaaaGreatDoor
namespace Cw
open Go.RowKit Go.Maps Pw
theorem zBB {W:World} {X:Nat} {v0 v1 v2 v3 v4 v5:Value} {t:TypeId} (h:W.heap[X]? =some (.cells #[v0,v1,v2,v3,v4,v5] t (0,0))):W.cell? ⟨X,0,none⟩=some v0∧W.cell? ⟨X,1,none⟩=some v1∧W.cell? ⟨X,2,none⟩=some v2∧W.cell? ⟨X,3,none⟩=some v3∧W.cell? ⟨X,4,none⟩=some v4∧W.cell? ⟨X,5,none⟩=some v5:=
 ⟨zB h (j:=0) rfl,zB h (j:=1) rfl,zB h (j:=2) rfl,zB h (j:=3) rfl,zB h (j:=4) rfl,zB h (j:=5) rfl⟩
theorem lo_My {w W W':World} {bs bs':List Bk} {a:Value} {l:List Tr.E} (h:My w bs [] W) (h':My w bs' [] W') (hs:W.heap.size≤W'.heap.size) (hS:SlE (loW w.heap.size W) a l):SlE W' a l:=
 SlE.inc (SlE.inc hS (zBH hs (fun b _ h0=>((My.fin h').block b h0).trans ((My.fin h).block b h0).symm))) (zFP _ _)
theorem zeroET {W:World}:ReadET W (.mk 0 0 0 ⟨#[]⟩ false [],.slice none 0 0):=⟨⟨zAT (n:=0) (by decide) (by decide),zAT (n:=0) (by decide) (by decide),zAT (n:=0) (by decide) (by decide),zD6⟩,.nil none 0⟩
theorem RowOk.last {B:Nat} {l:List Nat} {W:World} {p:Option Addr} {n c:Nat} {tr:List ET} {z:ET} (h:RowOk eCells 6 37 ReadET B l W (.slice p n c) (tr++ [z])) {m:Nat} (hm:tr.length=m):n=m+1∧∃g,p=some ⟨g,0,none⟩∧B≤g∧g<W.heap.size∧(∀q∈l,g≠q)∧∀j,j<6→(∃u,W.cell? ⟨g,m*6+j,none⟩=some u)∧W.frozen? ⟨g,m*6+j,none⟩=false:=by
 rcases h.own.2 with ⟨e,h2⟩|⟨b,cap,cur,e,hb,hblk,hn,hmx,hcs,ht⟩
 ·have h3:=h.own.1
  rw [List.length_append] at h3
  injection e with e1 e2 e3
  exfalso
  rw [List.length_append] at h2
  have:([z]:List ET).length=1:=rfl
  omega
 ·injection e with e1 e2 e3
  subst e1 e3
  rw [List.length_append,hm] at e2 hn
  refine⟨e2,b,rfl,hb,lt_of_block hblk,fun q hq e=>h.nin q hq (by rw [←e];rfl),fun j hj=>?_⟩
  have hsz:m*6+j<cur.size:=by
   have:([z]:List ET).length=1:=rfl
   omega
  exact⟨⟨cur[m*6+j],zB hblk (Array.getElem?_eq_getElem hsz)⟩,zI hblk _⟩
set_option maxRecDepth 100000 in
set_option maxHeartbeats 16000000 in
theorem zTK {w W:World} {B:Nat} {v:Value} {tr:List ET} (h:My w [(B,#[v],35)] [] W) (hr:RowOk eCells 6 37 ReadET w.heap.size [B] W v (tr)) (htl:tr.length≤900000) (x:Tr.E) (a:Value) (hw:Co.wE x≤900000) (hv:Tr.validE x=true) (hbd:BdE x) (hs:SlE (loW w.heap.size W) a x.args):
 Calls Tryz.prog 131 #[exprV x a,.pointer (some ⟨B,0,none⟩)] W (fun e W'=>e= .returned (.tuple #[])∧∃v' a',My w [(B,#[v'],35)] [] W'∧RowOk eCells 6 37 ReadET w.heap.size [B] W' v' (tr++ [(Co.fold x,a')])):=by
 obtain⟨i0,hi0,hz0,hz1,hz2⟩:=info_parts exprInfo
 obtain⟨pa,ca,rfl,_⟩:=SlE.form hs
 obtain⟨AX,hAX⟩:∃q,x.args.length=q:=⟨_,rfl⟩
 rw [hAX] at hs
 obtain⟨y,hy⟩:∃q,Co.fold x=q:=⟨_,rfl⟩
 have KF:Hid (∀(bs':List Bk) (W':World),My w bs' [] W'→W.heap.size≤W'.heap.size→Calls Tryz.prog 41 #[exprV x (.slice pa AX ca)] W' (FP y W')):=zh (fun bs' W' h' hsz=>by rw [←hy];exact zMU _ x _ W' (Nat.le_refl _) hw hv hbd (lo_My h h' hsz hs))
 unfold exprV at KF
 obtain⟨pv,cv,rfl⟩:=own_form hr.own
 obtain⟨n,hn⟩:∃q,tr.length=q:=⟨_,rfl⟩
 rw [hn] at hr h htl
 have C0:=zh h
 have HR0:=zh hr
 have HN:=zh hn
 have HSZ0:=zh (Nat.le_refl W.heap.size)
 unfold exprV
 rw [hAX,hy]
 clear h hr hs hw hv hbd hn hAX hy
 obtain⟨E,w1,HX,HW,hx1,C1⟩:=C0.out.boxE #[.int .i64 x.kind,.int .i64 x.op,.int .i64 x.int,.string x.name,.bool x.at_,.slice pa AX ca] 37
 have HR1:=zh (HR0.out.box zJ HX.out (.cells #[.int .i64 x.kind,.int .i64 x.op,.int .i64 x.int,.string x.name,.bool x.at_,.slice pa AX ca] 37))
 rw [←HW.out] at HR1
 have HSZ1:Hid (W.heap.size≤w1.heap.size):=zh (by rw [HW.out,World.size_alloc];omega)
 go_enter Tryz.func131,Tryz.ntmps131
 go_upto_region 1 with fail
 rw [←HX.out,←HW.out]
 clear HX HW C0 HR0 HSZ0
 obtain⟨w2,HW,C2⟩:=C1.out.drewE
 have hbd9:Below w1.heap.size w1 w2:=by rw [HW.out];exact zCJ (zDS (zBE _ _))
 have HR2:=zh (HR1.out.below zJ hbd9)
 have HSZ2:=zh (Nat.le_trans HSZ1.out hbd9.size)
 clear hbd9 HR1 HSZ1
 refine wp_region_held_drew (S:=fun W=>W.cell? ⟨E,0,none⟩=some (.int .i64 x.kind)∧W.cell? ⟨E,1,none⟩=some (.int .i64 x.op)∧W.cell? ⟨E,2,none⟩=some (.int .i64 x.int)∧W.cell? ⟨E,3,none⟩=some (.string x.name)∧W.cell? ⟨E,4,none⟩=some (.bool x.at_)∧W.cell? ⟨E,5,none⟩=some (.slice pa AX ca)) (by kernel_rfl) (by rw [←HW.out];exact zBB (C2.out.b 0 rfl)) (fun hHeld=>?_)
 rw [←HW.out] at hHeld ⊢
 clear HW C1
 refine rU 1 (some 4) ?_
 refine zFY (T:=fun W=>W.cell? ⟨B,0,none⟩=some (.slice pv n cv)) (k:=5) _ _ _ _ ?_
 replace hHeld:=And.intro hHeld (zB (C2.out.b 1 rfl) (j:=0) rfl)
 refine tT 0 (some 3) ?_
 try simp only [Act.put,q0,q1,q2]
 refine tT 3 (some 6) ?_
 try simp only [Act.put,q0,q1,q2]
 clear hHeld
 refine tR2 2 (some 5) 4 (some 7) (fun K hK=>?_) (fun K hK=>?_)
 ·go_simp
  refine(KF.out _ w2 C2.out HSZ2.out).mono ?_
  rintro e w3 ⟨a',rfl,hby,hsy,hb⟩
  obtain⟨py,cy,rfl,_⟩:=hsy.form
  obtain⟨AN,hAN⟩:∃q,y.args.length=q:=⟨_,rfl⟩
  rw [hAN] at hsy ⊢
  have HAN:=zh hAN
  have HBY:=zh hby
  have HR3:=zh (HR2.out.below zJ hb)
  have HSZ3:=zh (Nat.le_trans HSZ2.out hb.size)
  have HP3:=zh (SlE.inc hsy (HR2.out.pend C2.out.le (fun q hq=>(C2.out.lts hq).2.1)))
  have C3:=zh (C2.out.below hb)
  clear hb hsy hby hAN C2 HR2 HSZ2
  unfold exprV
  go_wp2_with fail
  refine hK.out _ _ ?_ (fun hHeld=>?_)
  ·exact⟨zBB (C3.out.b 0 rfl),zB (C3.out.b 1 rfl) (j:=0) rfl⟩
  clear hK K hHeld
  try simp only [Act.put,q0,q1,q2]
  refine tR1 4 (some 7) (fun K hK=>?_)
  obtain⟨G,w5,HG,HWG,hxg,C5⟩:=C3.out.boxE #[.int .i64 0,.int .i64 0,.int .i64 0,.string ⟨#[]⟩,.bool false,.slice none 0 0] 37
  have HR5:=zh (HR3.out.box zJ HG.out (.cells #[.int .i64 0,.int .i64 0,.int .i64 0,.string ⟨#[]⟩,.bool false,.slice none 0 0] 37))
  rw [←HWG.out] at HR5
  have HSZ5:Hid (W.heap.size≤w5.heap.size):=zh (by have h9:=HSZ3.out;rw [HWG.out,World.size_alloc];omega)
  have HP5:=zh (SlE.inc HP3.out (zR0 HG.out (.cells #[.int .i64 0,.int .i64 0,.int .i64 0,.string ⟨#[]⟩,.bool false,.slice none 0 0] 37)))
  rw [←HWG.out] at HP5
  go_simp
  rw [←HG.out,←HWG.out]
  refine hK.out _ _ ?_ (fun hHeld=>?_)
  ·exact⟨zBB (C5.out.b 1 rfl),zB (C5.out.b 2 rfl) (j:=0) rfl⟩
  clear hK K hHeld
  try simp only [Act.put,q0,q1,q2]
  clear HG HWG C3 HR3 HSZ3 HP3
  refine tK 5 (some 8) (fun K hK=>?_)
  refine zJC zA7 (fun _ _ _ hi hx=>⟨zJ _ _ _ hi hx.1,SlE.inc hx.2 hi⟩) rfl _ _ 35 rfl i0 (.agg #[.int .i64 0,.int .i64 0,.int .i64 0,.string ⟨#[]⟩,.bool false,.slice none 0 0]) 72 Tryz.underlying35 hi0 hz0 hz1 hz2 rfl (by decide) _ [(.mk 0 0 0 ⟨#[]⟩ false [],.slice none 0 0)] rfl rfl (HR5.out.both (P:=fun U=>SlE U (.slice py AN cy) y.args) HP5.out) (SrcAt.of_blk (f:=eCells) (x:=(.mk 0 0 0 ⟨#[]⟩ false [],.slice none 0 0)) (C5.out.b 0 rfl) rfl) (fun x hx=>by rw [List.mem_singleton.1 hx];exact⟨zeroET,HP5.out⟩) (zEX (w:=w5) (fun x hx=>by rw [List.mem_singleton.1 hx];exact zeroET)) (by have:=HN.out;simp only [List.length_cons,List.length_nil];unfold maxLen;omega) (by have:=HN.out;simp only [List.length_cons,List.length_nil];omega) C5.out.le (fun q hq=>(C5.out.lts hq).2.1) ?_
  intro v6 w6 hr hg
  have C6:=zh (My.push C5.out hg (fun q hq=>⟨(HR5.out.ge hq).1,fun hm=>HR5.out.nin q hm hq⟩))
  have HSZ6:=zh (Nat.le_trans HSZ5.out hg.size)
  obtain⟨p6,c6,rfl⟩:=own_form hr.own
  obtain⟨m6,hm6⟩:∃q,(tr++ [(.mk 0 0 0 ⟨#[]⟩ false [],.slice none 0 0)]:List ET).length=q:=⟨_,rfl⟩
  rw [hm6] at hr ⊢
  clear hm6
  have HR6:=zh hr.left
  have HP6:=zh (hr.right (x:=(.mk 0 0 0 ⟨#[]⟩ false [],.slice none 0 0)) (List.mem_append.2 (.inr (List.mem_cons_self ..))))
  clear hr hg C5 HR5 HSZ5 HP5
  refine hK.out _ _ ?_ (fun hHeld=>?_)
  ·exact zBB (C6.out.b 1 rfl)
  clear hK K hHeld
  try simp only [Act.put,q0,q1,q2]
  obtain⟨hm9,g,hp9,hBg,hgl,hgn,hgc⟩:=HR6.out.last HN.out
  subst hm9 hp9
  clear hBg hgl hgn hgc
  have b1:(0:Int)≤(n:Int):=by omega
  have b2:(n:Int)<(n:Int)+1:=by omega
  have hHeld:=zBB (C6.out.b 1 rfl)
  refine rU 6 (some 9) ?_
  refine rR2 7 none 8 none (fun K hK=>?_) (fun K hK=>?_)
  ·obtain⟨_,g9,hp9,hBg,hgl,hgn,hgc⟩:=HR6.out.last HN.out
   cases hp9
   obtain⟨⟨u0,k0⟩,f0⟩:=hgc 0 (by decide)
   obtain⟨⟨u1,k1⟩,f1⟩:=hgc 1 (by decide)
   obtain⟨⟨u2,k2⟩,f2⟩:=hgc 2 (by decide)
   obtain⟨⟨u3,k3⟩,f3⟩:=hgc 3 (by decide)
   obtain⟨⟨u4,k4⟩,f4⟩:=hgc 4 (by decide)
   obtain⟨⟨u5,k5⟩,f5⟩:=hgc 5 (by decide)
   rw [Nat.add_zero] at k0 f0
   obtain⟨w7,HW⟩:∃q,Hid (q=((((((w6.setCell ⟨g,n*6,none⟩ (.int .i64 y.kind)).setCell ⟨g,n*6+1,none⟩ (.int .i64 y.op)).setCell ⟨g,n*6+2,none⟩ (.int .i64 y.int)).setCell ⟨g,n*6+3,none⟩ (.string y.name)).setCell ⟨g,n*6+4,none⟩ (.bool y.at_)).setCell ⟨g,n*6+5,none⟩ (.slice py AN cy))):=⟨_,zh rfl⟩
   have HR7:=zh (HR6.out.put (z:=(.mk 0 0 0 ⟨#[]⟩ false [],.slice none 0 0)) y (.slice py AN cy) ⟨HBY.out,by have h9:=HP6.out;exact h9⟩ HN.out HW.out)
   have hgr:w6.grownBy w7 (some g):=by rw [HW.out];exact zD7 w6 g (n*6) _ _ _ _ _ _
   have C7:=zh (My.push C6.out hgr (fun q hq=>by injection hq with hq;subst hq;exact⟨hBg,fun hm=>hgn _ hm rfl⟩))
   go_simp
   rw [←HW.out]
   refine hK.out _ _ ?_ (fun hHeld=>?_)
   ·exact zBB (C7.out.b 1 rfl)
   clear hK K hHeld
   try simp only [Act.put,q0,q1,q2]
   clear HW hgr C6 HR6 HP6 hBg hgl hgn hgc k0 f0 k1 f1 k2 f2 k3 f3 k4 f4 k5 f5
   refine rR1 8 none (fun K hK=>?_)
   have q2:=cells1 (C7.out.b 2 rfl)
   obtain⟨w8,HW⟩:∃q,Hid (q=w7.setCell ⟨B,0,none⟩ (.slice (some ⟨g,0,none⟩) (n+1) c6)):=⟨_,zh rfl⟩
   have hgr:w7.grownBy w8 (some B):=by rw [HW.out];exact zH w7 B 0 _
   have C8:=zh ((C7.out.set (W':=w8) 2 rfl hgr (by rw [HW.out];exact heap_set (j:=0) _ (C7.out.b 2 rfl))).nrm (bs':= [(G,#[.int .i64 0,.int .i64 0,.int .i64 0,.string ⟨#[]⟩,.bool false,.slice none 0 0],37),(E,#[.int .i64 x.kind,.int .i64 x.op,.int .i64 x.int,.string x.name,.bool x.at_,.slice pa AX ca],37),(B,#[.slice (some ⟨g,0,none⟩) (n+1) c6],35)]) rfl)
   have HR8:=zh (HR7.out.keep zJ hgr (fun q e=>by injection e with e;subst e;exact .inr (by simp)) (fun q e h9=>HR7.out.nin B (by simp) (by rw [h9];exact e.symm)))
   go_simp
   rw [←HW.out]
   refine hK.out _ _ ?_ (fun hHeld=>?_)
   ·exact zBB (C8.out.b 1 rfl)
   clear hK K hHeld
   try simp only [Act.put,q0,q1,q2]
   clear HW hgr C7 HR7  q2
   refine wpAnyH_done (by kernel_rfl) ?_ _
   go_wp2_with fail
   go_end0
   exact⟨rfl,_,C8.out.tl.tl,_,HR8.out.sub zJ (fun q hq=>List.mem_cons_of_mem _ (List.mem_cons_of_mem _ hq))⟩
  ·have q2:=cells1 (C6.out.b 2 rfl)
   obtain⟨w9,HW⟩:∃q,Hid (q=w6.setCell ⟨B,0,none⟩ (.slice (some ⟨g,0,none⟩) (n+1) c6)):=⟨_,zh rfl⟩
   have hgr:w6.grownBy w9 (some B):=by rw [HW.out];exact zH w6 B 0 _
   have C9:=zh ((C6.out.set (W':=w9) 2 rfl hgr (by rw [HW.out];exact heap_set (j:=0) _ (C6.out.b 2 rfl))).nrm (bs':= [(G,#[.int .i64 0,.int .i64 0,.int .i64 0,.string ⟨#[]⟩,.bool false,.slice none 0 0],37),(E,#[.int .i64 x.kind,.int .i64 x.op,.int .i64 x.int,.string x.name,.bool x.at_,.slice pa AX ca],37),(B,#[.slice (some ⟨g,0,none⟩) (n+1) c6],35)]) rfl)
   have HR9:=zh (HR6.out.keep zJ hgr (fun q e=>by injection e with e;subst e;exact .inr (by simp)) (fun q e h9=>HR6.out.nin B (by simp) (by rw [h9];exact e.symm)))
   have HP9:=zh (SlE.inc HP6.out (zBR (B':=w.heap.size) (l':= [G,E,B]++ownL (.slice (some ⟨g,0,none⟩) (n+1) c6)) hgr (fun q e=>by injection e with e;subst e;exact .inr (by simp)) (fun _ _ h=>h)))
   go_simp
   rw [←HW.out]
   refine hK.out _ _ ?_ (fun hHeld=>?_)
   ·exact zBB (C9.out.b 1 rfl)
   clear hK K hHeld
   try simp only [Act.put,q0,q1,q2]
   clear HW hgr C6 HR6 HP6 q2
   refine rR1 7 none (fun K hK=>?_)
   obtain⟨_,g9,hp9,hBg,hgl,hgn,hgc⟩:=HR9.out.last HN.out
   cases hp9
   obtain⟨⟨u0,k0⟩,f0⟩:=hgc 0 (by decide)
   obtain⟨⟨u1,k1⟩,f1⟩:=hgc 1 (by decide)
   obtain⟨⟨u2,k2⟩,f2⟩:=hgc 2 (by decide)
   obtain⟨⟨u3,k3⟩,f3⟩:=hgc 3 (by decide)
   obtain⟨⟨u4,k4⟩,f4⟩:=hgc 4 (by decide)
   obtain⟨⟨u5,k5⟩,f5⟩:=hgc 5 (by decide)
   rw [Nat.add_zero] at k0 f0
   obtain⟨w10,HW⟩:∃q,Hid (q=((((((w9.setCell ⟨g,n*6,none⟩ (.int .i64 y.kind)).setCell ⟨g,n*6+1,none⟩ (.int .i64 y.op)).setCell ⟨g,n*6+2,none⟩ (.int .i64 y.int)).setCell ⟨g,n*6+3,none⟩ (.string y.name)).setCell ⟨g,n*6+4,none⟩ (.bool y.at_)).setCell ⟨g,n*6+5,none⟩ (.slice py AN cy))):=⟨_,zh rfl⟩
   have HR10:=zh (HR9.out.put (z:=(.mk 0 0 0 ⟨#[]⟩ false [],.slice none 0 0)) y (.slice py AN cy) ⟨HBY.out,by have h9:=HP9.out;exact h9⟩ HN.out HW.out)
   have hgr:w9.grownBy w10 (some g):=by rw [HW.out];exact zD7 w9 g (n*6) _ _ _ _ _ _
   have C10:=zh (My.push C9.out hgr (fun q hq=>by injection hq with hq;subst hq;exact⟨hBg,fun hm=>hgn _ hm rfl⟩))
   go_simp
   rw [←HW.out]
   refine hK.out _ _ ?_ (fun hHeld=>?_)
   ·exact zBB (C10.out.b 1 rfl)
   clear hK K hHeld
   try simp only [Act.put,q0,q1,q2]
   clear HW hgr C9 HR9 HP9 hBg hgl hgn hgc k0 f0 k1 f1 k2 f2 k3 f3 k4 f4 k5 f5
   refine wpAnyH_done (by kernel_rfl) ?_ _
   go_wp2_with fail
   go_end0
   exact⟨rfl,_,C10.out.tl.tl,_,HR10.out.sub zJ (fun q hq=>List.mem_cons_of_mem _ (List.mem_cons_of_mem _ hq))⟩
 ·obtain⟨G,w11,HG,HWG,hxg,C11⟩:=C2.out.boxE #[.int .i64 0,.int .i64 0,.int .i64 0,.string ⟨#[]⟩,.bool false,.slice none 0 0] 37
  have HR11:=zh (HR2.out.box zJ HG.out (.cells #[.int .i64 0,.int .i64 0,.int .i64 0,.string ⟨#[]⟩,.bool false,.slice none 0 0] 37))
  rw [←HWG.out] at HR11
  have HSZ11:Hid (W.heap.size≤w11.heap.size):=zh (by have h9:=HSZ2.out;rw [HWG.out,World.size_alloc];omega)
  go_simp
  rw [←HG.out,←HWG.out]
  refine hK.out _ _ ?_ (fun hHeld=>?_)
  ·exact⟨zBB (C11.out.b 1 rfl),zB (C11.out.b 2 rfl) (j:=0) rfl⟩
  clear hK K hHeld
  try simp only [Act.put,q0,q1,q2]
  clear HG HWG C2 HR2 HSZ2
  refine tR1 2 (some 5) (fun K hK=>?_)
  go_simp
  refine(KF.out _ w11 C11.out HSZ11.out).mono ?_
  rintro e w12 ⟨a',rfl,hby,hsy,hb⟩
  obtain⟨py,cy,rfl,_⟩:=hsy.form
  obtain⟨AN,hAN⟩:∃q,y.args.length=q:=⟨_,rfl⟩
  rw [hAN] at hsy ⊢
  have HAN:=zh hAN
  have HBY:=zh hby
  have HR12:=zh (HR11.out.below zJ hb)
  have HSZ12:=zh (Nat.le_trans HSZ11.out hb.size)
  have HP12:=zh (SlE.inc hsy (HR11.out.pend C11.out.le (fun q hq=>(C11.out.lts hq).2.1)))
  have C12:=zh (C11.out.below hb)
  clear hb hsy hby hAN C11 HR11 HSZ11
  unfold exprV
  go_wp2_with fail
  refine hK.out _ _ ?_ (fun hHeld=>?_)
  ·exact⟨zBB (C12.out.b 1 rfl),zB (C12.out.b 2 rfl) (j:=0) rfl⟩
  clear hK K hHeld
  try simp only [Act.put,q0,q1,q2]
  refine tK 5 (some 8) (fun K hK=>?_)
  refine zJC zA7 (fun _ _ _ hi hx=>⟨zJ _ _ _ hi hx.1,SlE.inc hx.2 hi⟩) rfl _ _ 35 rfl i0 (.agg #[.int .i64 0,.int .i64 0,.int .i64 0,.string ⟨#[]⟩,.bool false,.slice none 0 0]) 72 Tryz.underlying35 hi0 hz0 hz1 hz2 rfl (by decide) _ [(.mk 0 0 0 ⟨#[]⟩ false [],.slice none 0 0)] rfl rfl (HR12.out.both (P:=fun U=>SlE U (.slice py AN cy) y.args) HP12.out) (SrcAt.of_blk (f:=eCells) (x:=(.mk 0 0 0 ⟨#[]⟩ false [],.slice none 0 0)) (C12.out.b 0 rfl) rfl) (fun x hx=>by rw [List.mem_singleton.1 hx];exact⟨zeroET,HP12.out⟩) (zEX (w:=w12) (fun x hx=>by rw [List.mem_singleton.1 hx];exact zeroET)) (by have:=HN.out;simp only [List.length_cons,List.length_nil];unfold maxLen;omega) (by have:=HN.out;simp only [List.length_cons,List.length_nil];omega) C12.out.le (fun q hq=>(C12.out.lts hq).2.1) ?_
  intro v14 w14 hr hg
  have C14:=zh (My.push C12.out hg (fun q hq=>⟨(HR12.out.ge hq).1,fun hm=>HR12.out.nin q hm hq⟩))
  have HSZ14:=zh (Nat.le_trans HSZ12.out hg.size)
  obtain⟨p14,c14,rfl⟩:=own_form hr.own
  obtain⟨m14,hm14⟩:∃q,(tr++ [(.mk 0 0 0 ⟨#[]⟩ false [],.slice none 0 0)]:List ET).length=q:=⟨_,rfl⟩
  rw [hm14] at hr ⊢
  clear hm14
  have HR14:=zh hr.left
  have HP14:=zh (hr.right (x:=(.mk 0 0 0 ⟨#[]⟩ false [],.slice none 0 0)) (List.mem_append.2 (.inr (List.mem_cons_self ..))))
  clear hr hg C12 HR12 HSZ12 HP12
  refine hK.out _ _ ?_ (fun hHeld=>?_)
  ·exact zBB (C14.out.b 1 rfl)
  clear hK K hHeld
  try simp only [Act.put,q0,q1,q2]
  obtain⟨hm9,g,hp9,hBg,hgl,hgn,hgc⟩:=HR14.out.last HN.out
  subst hm9 hp9
  clear hBg hgl hgn hgc
  have b1:(0:Int)≤(n:Int):=by omega
  have b2:(n:Int)<(n:Int)+1:=by omega
  have hHeld:=zBB (C14.out.b 1 rfl)
  refine rU 6 (some 9) ?_
  refine rR2 7 none 8 none (fun K hK=>?_) (fun K hK=>?_)
  ·obtain⟨_,g9,hp9,hBg,hgl,hgn,hgc⟩:=HR14.out.last HN.out
   cases hp9
   obtain⟨⟨u0,k0⟩,f0⟩:=hgc 0 (by decide)
   obtain⟨⟨u1,k1⟩,f1⟩:=hgc 1 (by decide)
   obtain⟨⟨u2,k2⟩,f2⟩:=hgc 2 (by decide)
   obtain⟨⟨u3,k3⟩,f3⟩:=hgc 3 (by decide)
   obtain⟨⟨u4,k4⟩,f4⟩:=hgc 4 (by decide)
   obtain⟨⟨u5,k5⟩,f5⟩:=hgc 5 (by decide)
   rw [Nat.add_zero] at k0 f0
   obtain⟨w15,HW⟩:∃q,Hid (q=((((((w14.setCell ⟨g,n*6,none⟩ (.int .i64 y.kind)).setCell ⟨g,n*6+1,none⟩ (.int .i64 y.op)).setCell ⟨g,n*6+2,none⟩ (.int .i64 y.int)).setCell ⟨g,n*6+3,none⟩ (.string y.name)).setCell ⟨g,n*6+4,none⟩ (.bool y.at_)).setCell ⟨g,n*6+5,none⟩ (.slice py AN cy))):=⟨_,zh rfl⟩
   have HR15:=zh (HR14.out.put (z:=(.mk 0 0 0 ⟨#[]⟩ false [],.slice none 0 0)) y (.slice py AN cy) ⟨HBY.out,by have h9:=HP14.out;exact h9⟩ HN.out HW.out)
   have hgr:w14.grownBy w15 (some g):=by rw [HW.out];exact zD7 w14 g (n*6) _ _ _ _ _ _
   have C15:=zh (My.push C14.out hgr (fun q hq=>by injection hq with hq;subst hq;exact⟨hBg,fun hm=>hgn _ hm rfl⟩))
   go_simp
   rw [←HW.out]
   refine hK.out _ _ ?_ (fun hHeld=>?_)
   ·exact zBB (C15.out.b 1 rfl)
   clear hK K hHeld
   try simp only [Act.put,q0,q1,q2]
   clear HW hgr C14 HR14 HP14 hBg hgl hgn hgc k0 f0 k1 f1 k2 f2 k3 f3 k4 f4 k5 f5
   refine rR1 8 none (fun K hK=>?_)
   have q2:=cells1 (C15.out.b 2 rfl)
   obtain⟨w16,HW⟩:∃q,Hid (q=w15.setCell ⟨B,0,none⟩ (.slice (some ⟨g,0,none⟩) (n+1) c14)):=⟨_,zh rfl⟩
   have hgr:w15.grownBy w16 (some B):=by rw [HW.out];exact zH w15 B 0 _
   have C16:=zh ((C15.out.set (W':=w16) 2 rfl hgr (by rw [HW.out];exact heap_set (j:=0) _ (C15.out.b 2 rfl))).nrm (bs':= [(G,#[.int .i64 0,.int .i64 0,.int .i64 0,.string ⟨#[]⟩,.bool false,.slice none 0 0],37),(E,#[.int .i64 x.kind,.int .i64 x.op,.int .i64 x.int,.string x.name,.bool x.at_,.slice pa AX ca],37),(B,#[.slice (some ⟨g,0,none⟩) (n+1) c14],35)]) rfl)
   have HR16:=zh (HR15.out.keep zJ hgr (fun q e=>by injection e with e;subst e;exact .inr (by simp)) (fun q e h9=>HR15.out.nin B (by simp) (by rw [h9];exact e.symm)))
   go_simp
   rw [←HW.out]
   refine hK.out _ _ ?_ (fun hHeld=>?_)
   ·exact zBB (C16.out.b 1 rfl)
   clear hK K hHeld
   try simp only [Act.put,q0,q1,q2]
   clear HW hgr C15 HR15  q2
   refine wpAnyH_done (by kernel_rfl) ?_ _
   go_wp2_with fail
   go_end0
   exact⟨rfl,_,C16.out.tl.tl,_,HR16.out.sub zJ (fun q hq=>List.mem_cons_of_mem _ (List.mem_cons_of_mem _ hq))⟩
  ·have q2:=cells1 (C14.out.b 2 rfl)
   obtain⟨w17,HW⟩:∃q,Hid (q=w14.setCell ⟨B,0,none⟩ (.slice (some ⟨g,0,none⟩) (n+1) c14)):=⟨_,zh rfl⟩
   have hgr:w14.grownBy w17 (some B):=by rw [HW.out];exact zH w14 B 0 _
   have C17:=zh ((C14.out.set (W':=w17) 2 rfl hgr (by rw [HW.out];exact heap_set (j:=0) _ (C14.out.b 2 rfl))).nrm (bs':= [(G,#[.int .i64 0,.int .i64 0,.int .i64 0,.string ⟨#[]⟩,.bool false,.slice none 0 0],37),(E,#[.int .i64 x.kind,.int .i64 x.op,.int .i64 x.int,.string x.name,.bool x.at_,.slice pa AX ca],37),(B,#[.slice (some ⟨g,0,none⟩) (n+1) c14],35)]) rfl)
   have HR17:=zh (HR14.out.keep zJ hgr (fun q e=>by injection e with e;subst e;exact .inr (by simp)) (fun q e h9=>HR14.out.nin B (by simp) (by rw [h9];exact e.symm)))
   have HP17:=zh (SlE.inc HP14.out (zBR (B':=w.heap.size) (l':= [G,E,B]++ownL (.slice (some ⟨g,0,none⟩) (n+1) c14)) hgr (fun q e=>by injection e with e;subst e;exact .inr (by simp)) (fun _ _ h=>h)))
   go_simp
   rw [←HW.out]
   refine hK.out _ _ ?_ (fun hHeld=>?_)
   ·exact zBB (C17.out.b 1 rfl)
   clear hK K hHeld
   try simp only [Act.put,q0,q1,q2]
   clear HW hgr C14 HR14 HP14 q2
   refine rR1 7 none (fun K hK=>?_)
   obtain⟨_,g9,hp9,hBg,hgl,hgn,hgc⟩:=HR17.out.last HN.out
   cases hp9
   obtain⟨⟨u0,k0⟩,f0⟩:=hgc 0 (by decide)
   obtain⟨⟨u1,k1⟩,f1⟩:=hgc 1 (by decide)
   obtain⟨⟨u2,k2⟩,f2⟩:=hgc 2 (by decide)
   obtain⟨⟨u3,k3⟩,f3⟩:=hgc 3 (by decide)
   obtain⟨⟨u4,k4⟩,f4⟩:=hgc 4 (by decide)
   obtain⟨⟨u5,k5⟩,f5⟩:=hgc 5 (by decide)
   rw [Nat.add_zero] at k0 f0
   obtain⟨w18,HW⟩:∃q,Hid (q=((((((w17.setCell ⟨g,n*6,none⟩ (.int .i64 y.kind)).setCell ⟨g,n*6+1,none⟩ (.int .i64 y.op)).setCell ⟨g,n*6+2,none⟩ (.int .i64 y.int)).setCell ⟨g,n*6+3,none⟩ (.string y.name)).setCell ⟨g,n*6+4,none⟩ (.bool y.at_)).setCell ⟨g,n*6+5,none⟩ (.slice py AN cy))):=⟨_,zh rfl⟩
   have HR18:=zh (HR17.out.put (z:=(.mk 0 0 0 ⟨#[]⟩ false [],.slice none 0 0)) y (.slice py AN cy) ⟨HBY.out,by have h9:=HP17.out;exact h9⟩ HN.out HW.out)
   have hgr:w17.grownBy w18 (some g):=by rw [HW.out];exact zD7 w17 g (n*6) _ _ _ _ _ _
   have C18:=zh (My.push C17.out hgr (fun q hq=>by injection hq with hq;subst hq;exact⟨hBg,fun hm=>hgn _ hm rfl⟩))
   go_simp
   rw [←HW.out]
   refine hK.out _ _ ?_ (fun hHeld=>?_)
   ·exact zBB (C18.out.b 1 rfl)
   clear hK K hHeld
   try simp only [Act.put,q0,q1,q2]
   clear HW hgr C17 HR17 HP17 hBg hgl hgn hgc k0 f0 k1 f1 k2 f2 k3 f3 k4 f4 k5 f5
   refine wpAnyH_done (by kernel_rfl) ?_ _
   go_wp2_with fail
   go_end0
   exact⟨rfl,_,C18.out.tl.tl,_,HR18.out.sub zJ (fun q hq=>List.mem_cons_of_mem _ (List.mem_cons_of_mem _ hq))⟩
theorem zQU {w W:World} {B:Nat} (h:My w [(B,#[.slice none 0 0],35)] [] W) (l:List Tr.E) (vl:Value) (hS:SlE w vl l) (hw:Co.wEs l≤900000) (hv:Tr.validEs l=true):
 Calls Tryz.prog 130 #[vl,.func (.func 131) #[] #[.pointer (some ⟨B,0,none⟩)]] W (fun e W'=>e= .returned (.tuple #[])∧∃v',My w [(B,#[v'],35)] [] W'∧SlE (hide (upL w.heap.size [B]) W') v' (Co.folds l)):=by
 have hll:=zKR l
 have hI:=zQT (PP:=B) (I:=fun j W'=>∃v tr,tr.map Prod.fst=Co.folds (l.take j)∧My w [(B,#[v],35)] [] W'∧RowOk eCells 6 37 ReadET w.heap.size [B] W' v (tr)) l (v:=vl) (w:=W) (by omega) ?_ ?_ ?_
 ·refine hI.mono ?_
  rintro e w' ⟨rfl,v,tr,he,hm,hr⟩
  rw [List.take_of_length_le (Nat.le_refl _)] at he
  refine⟨rfl,v,hm,?_⟩
  rw [←he]
  exact hr.slE (l':= [B]) (fun q hq=>hq) (fun q hq=>hr.nin q hq)
 ·exact⟨_,[],by rw [List.take_zero,Co.folds];rfl,h,RowOk.nil⟩
 ·obtain⟨p,c,e,_⟩:=hS.form
  exact⟨p,c,e⟩
 ·rintro j x W1 hx ⟨v,tr,he,hm,hr⟩
  refine⟨fun b=>decide (w.heap.size≤b),SlE.inc hS ⟨by rw [z6];exact hm.le,fun b o u hc=>?_⟩,fun a W2 hbd hb hs=>?_⟩
  ·have hlt:=zZ hc
   rw [zAO (decide_eq_false (by omega))]
   have h2:=(My.fin hm).block b hlt
   unfold World.cell? at hc ⊢
   rw [h2]
   exact hc
  ·have htl:tr.length≤900000:=by
    have h9:=congrArg List.length he
    rw [List.length_map,Co.zAB,List.length_take] at h9
    omega
   refine(zTK (hm.below hb) (hr.below zJ hb) htl x a (Nat.le_trans (zKS hx) hw) (zG hv hx) hbd (SlE.inc hs (zBH hb.size (fun b hlt _=>hb.block b hlt)))).mono ?_
   rintro e w' ⟨rfl,v',a',hm',hr'⟩
   exact⟨rfl,v',_,by rw [List.map_append,he,zHU hx];rfl,hm',hr'⟩
def CR (b j:Nat) (v:Value):World→Prop:=fun W=>W.cell? ⟨b,j,none⟩=some v
theorem cr_mn {b j:Nat} {v:Value}:Mn (CR b j v):=fun _ _ hi h=>hi.2 _ _ _ h
theorem zMZ {w:World} {L:List Nat} {b j:Nat} {v:Value} (h:w.cell? ⟨b,j,none⟩=some v) (hb:b∉L):CR b j v (hide (upL 0 L) w):=by
 unfold CR
 rw [zAO (zBX (Nat.zero_le _) hb)]
 exact h
def CE (b o:Nat) (x:Tr.E) (a:Value):World→Prop:=fun W=>CellsE W b o x a
theorem ce_mn {b o:Nat} {x:Tr.E} {a:Value}:Mn (CE b o x a):=fun _ _ hi h=>h.inc hi
set_option maxRecDepth 100000 in
set_option maxHeartbeats 16000000 in
theorem zL2 {B0 gb:Nat} {cs:List Tr.C} {cl:Tr.C} {pv fv mv:Value} {g:Co.G} {cv nv vv:Value} {w:World} {d:Nat} (hE:EC B0 gb cs cl pv fv mv d) {l:List Tr.E} {x:Tr.E} (hx:l[0]? =some x) (hd:x.deep≤d) (hv:Tr.validE x=true) (h:GS B0 gb cs cl pv fv mv g cv nv vv w) (hB:B0≤w.heap.size) {n:Nat} (hbd:Co.Bd n g∧n+Co.wE x+2≤900000) {p:Option Addr} {N c:Nat} (hN:0<N) (hS:SlE (hide (upL 0 (owl gb cv nv vv)) w) (.slice p N c) l) {X E:Nat} (hX:w.cell? ⟨X,0,none⟩=some (.pointer (some ⟨gb,0,none⟩))) (hXo:X∉owl gb cv nv vv) (hE5:w.cell? ⟨E,5,none⟩=some (.slice p N c)) (hEo:E∉owl gb cv nv vv) (op:Int):
 Calls Tryz.prog 169 #[.int .i64 op,.pointer (some ⟨X,0,none⟩),.pointer (some ⟨E,0,none⟩)] w (GQ B0 gb cs cl pv fv mv (Co.emit (Co.gE cs cl.fields g x) op 0 0 1 1) cv nv vv w):=by
 obtain⟨b,oo,hp,hblt,pa,ca,hcx,hbx,hsx⟩:=Mg.elem (Mg.start (os:= [RE (.slice p N c) l]) h hB (fun r hr=>by rw [List.mem_singleton.1 hr];exact⟨re_mn,hS⟩)) 0 rfl hx
 subst hp
 obtain⟨AN,hAN⟩:∃q,x.args.length=q:=⟨_,rfl⟩
 rw [hAN] at hcx hsx
 obtain⟨b2,oo2,aa2,hp2,_,hcy,_,_⟩:=SlE.get hS hx
 cases hp2
 have HCY:Hid (CE b oo x (.slice pa AN ca) (hide (upL 0 (owl gb cv nv vv)) w)):=zh (by
  obtain⟨x0,x1,x2,x3,x4,x5⟩:=hcy
  have y5:=(zN x5).2
  have z5:=hcx.2.2.2.2.2
  rw [y5] at z5
  injection z5 with z5
  subst z5
  exact⟨by simpa using x0,by simpa using x1,by simpa using x2,by simpa using x3,by simpa using x4,by simpa using x5⟩)
 have C0:=zh (Mg.start (os:= [CE b oo x (.slice pa AN ca),CR X 0 (.pointer (some ⟨gb,0,none⟩)),CR E 5 (.slice (some ⟨b,oo,none⟩) N c)]) h hB (fun r hr=>by
  rcases List.mem_cons.1 hr with rfl|hr
  ·exact⟨ce_mn,HCY.out⟩
  rcases List.mem_cons.1 hr with rfl|hr
  ·exact⟨cr_mn,zMZ hX hXo⟩
  rw [List.mem_singleton.1 hr]
  exact⟨cr_mn,zMZ hE5 hEo⟩))
 have HT:Hid (n+Co.wE x+2≤900000):=zh hbd.2
 have HBD:Hid (Co.Bd n g∧n≤900000):=zh ⟨hbd.1,by have:=hbd.2;omega⟩
 have hNx:(0:Int)<(N:Int):=by omega
 have HKX:=zh (fun (w1:World) (h1:GS B0 gb cs cl pv fv mv g cv nv vv w1) (hb1:B0≤w1.heap.size) (hs1:SlE (hide (upL 0 (owl gb cv nv vv)) w1) (.slice pa AN ca) x.args)=>hE x g cv nv vv w1 _ n hd hv hbx h1 hb1 ⟨hbd.1,by have:=hbd.2;omega⟩ hs1)
 unfold exprV at HKX
 have hsd:SlE (hide (upL 0 (owl gb cv nv vv)) w.drew) (.slice pa AN ca) x.args:=SlE.inc hsx (by have h8:=(Gr.below (zCJ (zDS (zBE w none))) (owl gb cv nv vv)).inc [] (V:=0);rw [List.append_nil] at h8;exact h8)
 have HSD:=zh hsd
 clear hsd
 clear h hB hbd hE hS hx hd hv hX hXo hE5 hEo hcx hbx hsx hcy hAN HCY hblt
 obtain⟨XX,hX⟩:∃q,Co.emit (Co.gE cs cl.fields g x) op 0 0 1 1=q:=⟨_,rfl⟩
 rw [hX]
 have HX:=zh hX
 clear hX
 go_enter Tryz.func169,Tryz.ntmps169
 go_upto_region 0 with fail
 obtain⟨w1,HW,C1⟩:=C0.out.drewE
 refine wp_region_held_drew (S:=fun W=>W.cell? ⟨X,0,none⟩=some (.pointer (some ⟨gb,0,none⟩))∧W.cell? ⟨E,5,none⟩=some (.slice (some ⟨b,oo,none⟩) N c)∧W.cell? ⟨b,oo,none⟩=some (.int .i64 x.kind)∧W.cell? ⟨b,oo+1,none⟩=some (.int .i64 x.op)∧W.cell? ⟨b,oo+2,none⟩=some (.int .i64 x.int)∧W.cell? ⟨b,oo+3,none⟩=some (.string x.name)∧W.cell? ⟨b,oo+4,none⟩=some (.bool x.at_)∧W.cell? ⟨b,oo+5,none⟩=some (.slice pa AN ca)) (by kernel_rfl) (by rw [←HW.out];exact⟨C1.out.rd 1 rfl,C1.out.rd 2 rfl,C1.out.rd 0 rfl⟩) (fun hHeld=>?_)
 rw [←HW.out] at hHeld ⊢
 have HWE:=HW
 clear HW C0
 refine rU 0 (some 4) ?_
 refine rU 1 (some 5) ?_
 refine rU 2 (some 6) ?_
 refine rU 3 (some 7) ?_
 refine rU 4 (some 8) ?_
 refine rR1 5 (some 9) (fun K hK=>?_)
 go_simp
 clear hHeld
 refine(HKX.out w1 C1.out.q (Nat.le_trans C1.out.hB C1.out.le) (by first|exact HSD.out|(rw [HWE.out];exact HSD.out))).mono ?_
 rintro e w2 hp2
 obtain⟨rfl,cv2,nv2,vv2,C2⟩:=Mg.done C1.out hp2
 clear hp2 C1
 have HB3:Hid (Co.Bd (n+Co.wE x) (Co.gE cs cl.fields (g) x)∧n+Co.wE x≤900000):=zh ⟨Co.gE_bd cs cl.fields _ _ x HBD.out.1,by have h9:=HT.out;omega⟩
 clear HBD
 go_wp2_with fail
 refine hK.out _ _ ?_ (fun hHeld=>?_)
 ·exact⟨C2.out.rd 1 rfl,C2.out.rd 2 rfl,C2.out.rd 0 rfl⟩
 clear hK K
 try simp only [Act.put,q0,q1,q2]
 refine wpAnyH_done (by kernel_rfl) ?_ _
 clear hHeld
 have hx0:=C2.out.rd 1 rfl
 unfold CR at hx0
 go_wp2_with fail
 refine(zW C2.out.q (Nat.le_trans C2.out.hB C2.out.le) HB3.out (op) (0) (0) (1) (1) ⟨by omega,by omega⟩ ⟨by omega,by omega⟩).mono ?_
 rintro e w4 hp4
 obtain⟨rfl,cv4,nv4,vv4,C4⟩:=Mg.done C2.out hp4
 clear hp4 C2
 have HB5:Hid (Co.Bd (n+Co.wE x+1+1) (Co.emit (Co.gE cs cl.fields (g) x) (op) (0) (0) (1) (1))∧n+Co.wE x+1+1≤900000):=zh ⟨HB3.out.1.em (m:=1) ⟨by omega,by omega⟩ ⟨by omega,by omega⟩,by have h9:=HT.out;omega⟩
 clear HB3
 clear hx0
 go_wp2_with fail
 go_end0
 have h9:=Mg.fin C4.out
 rw [HX.out] at h9
 exact h9
set_option maxRecDepth 100000 in
set_option maxHeartbeats 16000000 in
theorem zOM {B0 gb:Nat} {cs:List Tr.C} {cl:Tr.C} {pv fv mv:Value} {g:Co.G} {cv nv vv:Value} {w:World} {d:Nat} (hE:EC B0 gb cs cl pv fv mv d) (e:Tr.E) (hk:e.kind=10) (hd:e.deep≤d+1) (hv:Tr.validE e=true) (h:GS B0 gb cs cl pv fv mv g cv nv vv w) (hB:B0≤w.heap.size) {n:Nat} (hbd:Co.Bd n g∧n+Co.wEs e.args+9≤900000) (a:Value) (hS:SlE (hide (upL 0 (owl gb cv nv vv)) w) a e.args):
 Calls Tryz.prog 170 #[.pointer (some ⟨gb,0,none⟩),exprV e a] w (GQ B0 gb cs cl pv fv mv (if e.op=11 then Co.gL cs cl.fields g 19 0 e.args else if e.op=12 then Co.gL cs cl.fields g 20 1 e.args else Co.emit (Co.gEs cs cl.fields g e.args) 16 e.op 0 2 1) cv nv vv w):=by
 obtain⟨X,hX⟩:∃q,(if e.op=11 then Co.gL cs cl.fields g 19 0 e.args else if e.op=12 then Co.gL cs cl.fields g 20 1 e.args else Co.emit (Co.gEs cs cl.fields g e.args) 16 e.op 0 2 1)=q:=⟨_,rfl⟩
 rw [hX]
 obtain⟨k,o,i,nm,at_,l⟩:=e
 change (if o=11 then Co.gL cs cl.fields g 19 0 l else if o=12 then Co.gL cs cl.fields g 20 1 l else Co.emit (Co.gEs cs cl.fields g l) 16 o 0 2 1)=X at hX
 have hk:k=10:=hk
 subst hk
 have hvl:=(Co.zF hv).1
 have HBD:Hid (Co.Bd n g∧n≤900000):=zh ⟨hbd.1,by have:=hbd.2;omega⟩
 have hbd2:Co.Bd n g∧n+Co.wEs l+9≤900000:=hbd
 have HT:Hid (n+Co.wEs l+9≤900000):=zh hbd2.2
 have hS2:SlE (hide (upL 0 (owl gb cv nv vv)) w) a l:=hS
 obtain⟨p,c,rfl,_⟩:=hS2.form
 obtain⟨N,hN⟩:∃q,l.length=q:=⟨_,rfl⟩
 rw [hN] at hS2 hS
 have HLG:Hid (∀(j v:Int) (cv1 nv1 vv1:Value) (w1:World),GS B0 gb cs cl pv fv mv g cv1 nv1 vv1 w1→B0≤w1.heap.size→SlE (hide (upL 0 (owl gb cv1 nv1 vv1)) w1) (.slice p N c) l→_):=zh (fun j v cv1 nv1 vv1 w1 h1 hb1 hs1=>zPQ hE (.mk 10 o i nm at_ l) rfl hd hv h1 hb1 hbd (.slice p N c) hs1 j v)
 have HEA:=zh hE
 have HDA:Hid (∀(j:Nat) (x:Tr.E),l[j]? =some x→x.deep≤d):=zh (fun j x hx=>Tr.E.deep_args hd (j:=j) (x:=x) hx)
 have HVA:=zh hvl
 have C0:=zh (Mg.start (os:= [RE (.slice p N c) l]) h hB (fun r hr=>by rw [List.mem_singleton.1 hr];exact⟨re_mn,hS2⟩))
 clear h hB hbd hE hS hd hv hS2 hvl hbd2
 unfold exprV at HLG ⊢
 simp only [Tr.E.kind,Tr.E.op,Tr.E.int,Tr.E.name,Tr.E.at_,Tr.E.args] at HLG ⊢
 rw [hN]
 have HX:=zh hX
 clear hX hN
 obtain⟨E,w6,HX6,HW6,hx6,C6⟩:=C0.out.boxE #[.int .i64 10,.int .i64 o,.int .i64 i,.string nm,.bool at_,.slice p N c] 37
 go_enter Tryz.func170,Tryz.ntmps170
 go_upto_region 1 with fail
 rw [←HX6.out,←HW6.out]
 clear HX6 HW6 C0
 by_cases h11:o=11
 ·subst h11
  obtain⟨Y,hY⟩:∃q,Co.gL cs cl.fields g 19 0 l=q:=⟨_,rfl⟩
  have hXY:Y=X:=by
   rw [←HX.out,←hY]
   rfl
  have q0:=cells6 (C6.out.b 0 rfl)
  go_wp2_with fail
  refine(HLG.out 19 0 _ _ _ w6 C6.out.q (Nat.le_trans C6.out.hB C6.out.le) (Mg.sight C6.out 0 rfl)).mono ?_
  rw [hY,hXY]
  clear hY hXY
  rintro e w7 hp7
  obtain⟨rfl,cv7,nv7,vv7,C7⟩:=Mg.done C6.out hp7
  clear hp7 C6
  go_wp2_with fail
  go_end0
  exact Mg.fin C7.out
 ·by_cases h12:o=12
  ·subst h12
   obtain⟨Y,hY⟩:∃q,Co.gL cs cl.fields g 20 1 l=q:=⟨_,rfl⟩
   have hXY:Y=X:=by
    rw [←HX.out,←hY]
    rfl
   have q0:=cells6 (C6.out.b 0 rfl)
   go_wp2_with fail
   refine(HLG.out 20 1 _ _ _ w6 C6.out.q (Nat.le_trans C6.out.hB C6.out.le) (Mg.sight C6.out 0 rfl)).mono ?_
   rw [hY,hXY]
   clear hY hXY
   rintro e w8 hp8
   obtain⟨rfl,cv8,nv8,vv8,C8⟩:=Mg.done C6.out hp8
   clear hp8 C6
   go_wp2_with fail
   go_end0
   exact Mg.fin C8.out
  ·have h11b:(o == 11)=false:=beq_eq_false_iff_ne.2 h11
   have h12b:(o == 12)=false:=beq_eq_false_iff_ne.2 h12
   rw [if_neg h11,if_neg h12] at HX
   have q0:=cells6 (C6.out.b 0 rfl)
   go_wp2_with fail
   refine(Mg.eachE C6.out 0 rfl HEA.out HDA.out HVA.out ⟨HBD.out.1,by have:=HT.out;omega⟩).mono ?_
   rintro e w9 hp9
   obtain⟨rfl,cv9,nv9,vv9,C9⟩:=Mg.done C6.out hp9
   clear hp9 C6
   clear q0
   have HB10:Hid (Co.Bd (n+Co.wEs l) (Co.gEs cs cl.fields (g) l)∧n+Co.wEs l≤900000):=zh ⟨Co.zB7 cs cl.fields _ _ l HBD.out.1,by have h9:=HT.out;omega⟩
   clear HBD
   have q0:=cells6 (C9.out.b 0 rfl)
   go_wp2_with fail
   refine(zW C9.out.q (Nat.le_trans C9.out.hB C9.out.le) HB10.out (16) (o) (0) (2) (1) ⟨by omega,by omega⟩ ⟨by omega,by omega⟩).mono ?_
   rintro e w11 hp11
   obtain⟨rfl,cv11,nv11,vv11,C11⟩:=Mg.done C9.out hp11
   clear hp11 C9
   clear q0
   have HB12:Hid (Co.Bd (n+Co.wEs l+2+1) (Co.emit (Co.gEs cs cl.fields (g) l) (16) (o) (0) (2) (1))∧n+Co.wEs l+2+1≤900000):=zh ⟨HB10.out.1.em (m:=2) ⟨by omega,by omega⟩ ⟨by omega,by omega⟩,by have h9:=HT.out;omega⟩
   clear HB10
   go_wp2_with fail
   go_end0
   have h9:=Mg.fin C11.out
   rw [HX.out] at h9
   exact h9
end Cw
end Go.Proofs.YtcnmfcgmnkncaaaGreatDoor
