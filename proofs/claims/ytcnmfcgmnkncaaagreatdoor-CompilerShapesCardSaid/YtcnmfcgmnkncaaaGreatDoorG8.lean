/-
  Several texts in one: CkFind, CoName, CoLocal, CoJump.
-/
import Derived.Test.YtcnmfcgmnkncaaaGreatDoorG7
import Derived.Test.YtcnmfcgmnkncaaaGreatDoorG2
import Derived.Test.YtcnmfcgmnkncaaaGreatDoorG3
import Derived.RangeFuncNested
import Derived.RangeFuncBound
import Derived.RangeFuncCalls
import Derived.RangeFuncLeaves
import Derived.RangeFuncBox
import Derived.Shelf.Abstract
import Derived.Shelf.RegionOpen
import Derived.WalkKit
import Derived.OwnWalkIn
import Derived.TacticsInMore
import Derived.LoopNIn
import Derived.LoopIn
namespace Go.Proofs.YtcnmfcgmnkncaaaGreatDoor
open Go.RowKit
def idxI:Option Nat→Int
 |none=> -1
 |some i=>i
theorem find_hit {α:Type} {p:α→Bool} {l:List α} {j:Nat} {x:α} (h:∀t x,t<j→l[t]? =some x→p x=false) (hj:l[j]? =some x) (hx:p x=true):l.findIdx? p=some j:=by
 obtain⟨hlt,hg⟩:=List.getElem?_eq_some_iff.1 hj
 rw [List.findIdx?_eq_some_iff_getElem]
 refine⟨hlt,by rw [hg];exact hx,fun t ht=>?_⟩
 have:=h t (l[t]'(by omega)) ht (List.getElem?_eq_getElem (by omega))
 simp [this]
theorem find_no {α:Type} {p:α→Bool} {l:List α} {n:Nat} (hn:l.length=n) (h:∀t x,t<n→l[t]? =some x→p x=false):l.findIdx? p=none:=by
 rw [List.findIdx?_eq_none_iff]
 intro x hx
 obtain⟨t,ht,rfl⟩:=List.getElem_of_mem hx
 exact h t _ (by omega) (List.getElem?_eq_getElem ht)
theorem find_lt {α:Type} {p:α→Bool} {l:List α} {i:Nat} (h:l.findIdx? p=some i):i<l.length:=by
 rw [List.findIdx?_eq_some_iff_getElem] at h
 exact h.1
set_option maxRecDepth 100000 in
set_option maxHeartbeats 2000000 in
theorem find1C_any (nm:ByteArray) (B:Nat) (W:World) (hB:W.cell? ⟨B,0,none⟩=some (.string nm)) (x:Tr.C) (a1 a2:Value) (h:ReadC W x a1 a2):
 Calls Tryz.prog 124 #[classV x a1 a2,.pointer (some ⟨B,0,none⟩)] W fun e w'=>e= .returned (.bool (decide (x.name=nm)))∧Below W.heap.size W w':=by
 have hb0:=cell_lt' hB
 obtain⟨pa,ca,rfl⟩:=h.2.1.form
 obtain⟨pb,cb,rfl⟩:=h.2.2.form
 obtain⟨AN,hAN⟩:∃N,x.fields.length=N:=⟨_,rfl⟩
 obtain⟨BN,hBN⟩:∃N,x.methods.length=N:=⟨_,rfl⟩
 rw [hAN,hBN]
 clear h hAN hBN
 unfold classV
 go_enter Tryz.func124,Tryz.ntmps124
 go_wp2
 go_ret
 exact⟨ret_bool (bytes_beq _ _),below_box _ _⟩
set_option maxRecDepth 100000 in
set_option maxHeartbeats 2000000 in
theorem findC_any (nm:ByteArray) (l:List Tr.C) (B:Nat) (W:World) (hB:W.cell? ⟨B,0,none⟩=some (.string nm)) (v:Value) (hS:SlC W v l):
 Calls Tryz.prog 123 #[v,.func (.func 124) #[] #[.pointer (some ⟨B,0,none⟩)]] W fun e w'=>e= .returned (.int .i64 (idxI (Ck.classAt l nm)))∧Below W.heap.size W w':=by
 obtain⟨p,c,rfl⟩:=hS.form
 have hll:=hS.len
 unfold maxLen at hll
 obtain⟨N,hN⟩:∃N,l.length=N:=⟨_,rfl⟩
 rw [hN] at hS hll ⊢
 have HS:=Lib.hid hS
 have HN:=Lib.hid hN
 clear hS hN
 go_enter Tryz.func123,Tryz.ntmps123
 go_wp2
 go_loopw [8] (fun s8 wr=>∃j:Nat,s8= .int .i64 j∧j≤N∧(∀t x,t<j→l[t]? =some x→decide (x.name=nm)=false)∧Below W.heap.size W wr) (fun s8 _=>N -(intOf s8).toNat)
 case atStart=>exact ⟨0,rfl,Nat.zero_le _,fun t x ht=>by omega,Below.refl _ _⟩
 case round=>
  obtain⟨j,rfl,hj,hall,hbr⟩:=hrel
  have HA:=Lib.hid hall
  have HBR:=Lib.hid hbr
  have HB1:=Lib.hid (cell_keep' hbr hB)
  clear hall
  by_cases hlt:j<N
  ·obtain⟨x,hx⟩:∃x,l[j]? =some x:=⟨_,List.getElem?_eq_getElem (by rw [HN.out];exact hlt)⟩
   obtain⟨b,oo,a1,a2,rfl,_,hc,hnm,hsp,hsb⟩:=(HS.out.keep hbr).get hx
   obtain⟨x0,x1,x2,x3⟩:=hc
   have hr:ReadC wr x a1 a2:=⟨hnm,hsp,hsb⟩
   have hcall:=find1C_any nm B wr HB1.out x _ _ hr
   unfold classV at hcall
   have HX:=Lib.hid hx
   clear hx hr hbr hnm hsp hsb
   cases hv:decide (x.name=nm)
   ·rw [hv] at hcall
    have HCL:=Lib.hid hcall
    have HV:=Lib.hid hv
    clear hcall hv
    go_wp2_with fail
    refine HCL.out.mono ?_
    rintro e w2 ⟨rfl,hb2⟩
    go_wp2_with fail
    go_roundw
    case rel=>
     refine⟨j+1,by go_num,by omega,fun t y ht hty=>?_,below_next HBR.out hb2⟩
     by_cases e:t=j
     ·subst e;rw [HX.out] at hty;cases hty;exact HV.out
     ·exact HA.out t y (by omega) hty
    case measure=>simp [intOf];omega
   ·rw [hv] at hcall
    have HCL:=Lib.hid hcall
    have hf:=Lib.hid (find_hit HA.out HX.out hv)
    clear hcall hv
    go_wp2_with fail
    refine HCL.out.mono ?_
    rintro e w2 ⟨rfl,hb2⟩
    go_wp2_with fail
    go_ret
    exact⟨by unfold Ck.classAt;rw [hf.out];rfl,below_next HBR.out hb2⟩
  ·have hf:=Lib.hid (find_no (n:=N) HN.out (fun t x ht=>HA.out t x (by omega)))
   clear hbr
   go_wp2_with fail
   go_ret
   exact⟨by unfold Ck.classAt;rw [hf.out];rfl,HBR.out⟩
set_option maxRecDepth 100000 in
set_option maxHeartbeats 2000000 in
theorem find1M_any (nm:ByteArray) (B:Nat) (W:World) (hB:W.cell? ⟨B,0,none⟩=some (.string nm)) (x:Tr.M) (a1 a2:Value) (h:ReadM W x a1 a2):
 Calls Tryz.prog 126 #[methV x a1 a2,.pointer (some ⟨B,0,none⟩)] W fun e w'=>e= .returned (.bool (decide (x.name=nm)))∧Below W.heap.size W w':=by
 have hb0:=cell_lt' hB
 obtain⟨pa,ca,rfl⟩:=h.2.1.form
 obtain⟨pb,cb,rfl,_⟩:=h.2.2.form
 obtain⟨AN,hAN⟩:∃N,x.params.length=N:=⟨_,rfl⟩
 obtain⟨BN,hBN⟩:∃N,x.body.length=N:=⟨_,rfl⟩
 rw [hAN,hBN]
 clear h hAN hBN
 unfold methV
 go_enter Tryz.func126,Tryz.ntmps126
 go_wp2
 go_ret
 exact⟨ret_bool (bytes_beq _ _),below_box _ _⟩
set_option maxRecDepth 100000 in
set_option maxHeartbeats 2000000 in
theorem findM_any (nm:ByteArray) (l:List Tr.M) (B:Nat) (W:World) (hB:W.cell? ⟨B,0,none⟩=some (.string nm)) (v:Value) (hS:SlM W v l):
 Calls Tryz.prog 125 #[v,.func (.func 126) #[] #[.pointer (some ⟨B,0,none⟩)]] W fun e w'=>e= .returned (.int .i64 (idxI (Ck.methodAt l nm)))∧Below W.heap.size W w':=by
 obtain⟨p,c,rfl⟩:=hS.form
 have hll:=hS.len
 unfold maxLen at hll
 obtain⟨N,hN⟩:∃N,l.length=N:=⟨_,rfl⟩
 rw [hN] at hS hll ⊢
 have HS:=Lib.hid hS
 have HN:=Lib.hid hN
 clear hS hN
 go_enter Tryz.func125,Tryz.ntmps125
 go_wp2
 go_loopw [8] (fun s8 wr=>∃j:Nat,s8= .int .i64 j∧j≤N∧(∀t x,t<j→l[t]? =some x→decide (x.name=nm)=false)∧Below W.heap.size W wr) (fun s8 _=>N -(intOf s8).toNat)
 case atStart=>exact ⟨0,rfl,Nat.zero_le _,fun t x ht=>by omega,Below.refl _ _⟩
 case round=>
  obtain⟨j,rfl,hj,hall,hbr⟩:=hrel
  have HA:=Lib.hid hall
  have HBR:=Lib.hid hbr
  have HB1:=Lib.hid (cell_keep' hbr hB)
  clear hall
  by_cases hlt:j<N
  ·obtain⟨x,hx⟩:∃x,l[j]? =some x:=⟨_,List.getElem?_eq_getElem (by rw [HN.out];exact hlt)⟩
   obtain⟨b,oo,a1,a2,rfl,_,hc,hnm,hsp,hsb⟩:=(HS.out.keep hbr).get hx
   obtain⟨x0,x1,x2⟩:=hc
   have hr:ReadM wr x a1 a2:=⟨hnm,hsp,hsb⟩
   have hcall:=find1M_any nm B wr HB1.out x _ _ hr
   unfold methV at hcall
   have HX:=Lib.hid hx
   clear hx hr hbr hnm hsp hsb
   cases hv:decide (x.name=nm)
   ·rw [hv] at hcall
    have HCL:=Lib.hid hcall
    have HV:=Lib.hid hv
    clear hcall hv
    go_wp2_with fail
    refine HCL.out.mono ?_
    rintro e w2 ⟨rfl,hb2⟩
    go_wp2_with fail
    go_roundw
    case rel=>
     refine⟨j+1,by go_num,by omega,fun t y ht hty=>?_,below_next HBR.out hb2⟩
     by_cases e:t=j
     ·subst e;rw [HX.out] at hty;cases hty;exact HV.out
     ·exact HA.out t y (by omega) hty
    case measure=>simp [intOf];omega
   ·rw [hv] at hcall
    have HCL:=Lib.hid hcall
    have hf:=Lib.hid (find_hit HA.out HX.out hv)
    clear hcall hv
    go_wp2_with fail
    refine HCL.out.mono ?_
    rintro e w2 ⟨rfl,hb2⟩
    go_wp2_with fail
    go_ret
    exact⟨by unfold Ck.methodAt;rw [hf.out];rfl,below_next HBR.out hb2⟩
  ·have hf:=Lib.hid (find_no (n:=N) HN.out (fun t x ht=>HA.out t x (by omega)))
   clear hbr
   go_wp2_with fail
   go_ret
   exact⟨by unfold Ck.methodAt;rw [hf.out];rfl,HBR.out⟩
set_option maxRecDepth 100000 in
set_option maxHeartbeats 2000000 in
theorem class_any (nm:ByteArray) (cs:List Tr.C) (v:Value) (w:World) (h:SlC w v cs):
 Calls Tryz.prog 83 #[.agg #[v],.string nm] w fun e w'=>e= .returned (.tuple #[.int .i64 ((Ck.classAt cs nm).getD 0:Nat),.bool (Ck.classAt cs nm).isSome])∧Below w.heap.size w w':=by
 obtain⟨p,c,rfl⟩:=h.form
 have hll:=h.len
 unfold maxLen at hll
 have KF:Hid (∀W B,Below w.heap.size w W→W.cell? ⟨B,0,none⟩=some (.string nm)→Calls Tryz.prog 123 #[.slice p cs.length c,.func (.func 124) #[] #[.pointer (some ⟨B,0,none⟩)]] W fun e w'=>e= .returned (.int .i64 (idxI (Ck.classAt cs nm)))∧Below W.heap.size W w'):=fun W B hb hB=>
  findC_any nm cs B W hB _ (h.keep hb)
 cases hcl:Ck.classAt cs nm with
 |none=>
  rw [hcl] at KF
  simp only [idxI] at KF
  obtain⟨N,hN⟩:∃N,cs.length=N:=⟨_,rfl⟩
  rw [hN] at KF ⊢
  have hbx:=below_next (below_box w (.cells #[.slice p N c] 24)) (below_box (w.alloc (.cells #[.slice p N c] 24)) (.cells #[.string nm] 9))
  have hcl2:=box_cell (w.alloc (.cells #[.slice p N c] 24)) #[.string nm] 9 0 _ rfl
  simp only [World.size_alloc] at hcl2
  have HC:=Lib.hid (KF.out _ _ hbx hcl2)
  have HBX:=Lib.hid hbx
  clear h hcl hN hbx hcl2 KF
  go_enter Tryz.func83,Tryz.ntmps83
  go_wp2_with fail
  refine HC.out.mono ?_
  rintro e w2 ⟨rfl,hb2⟩
  go_wp2_with fail
  go_ret2
  exact⟨rfl,below_next HBX.out hb2⟩
 |some i=>
  rw [hcl] at KF
  simp only [idxI] at KF
  have hil:=find_lt hcl
  obtain⟨N,hN⟩:∃N,cs.length=N:=⟨_,rfl⟩
  rw [hN] at KF hil hll ⊢
  have hbx:=below_next (below_box w (.cells #[.slice p N c] 24)) (below_box (w.alloc (.cells #[.slice p N c] 24)) (.cells #[.string nm] 9))
  have hcl2:=box_cell (w.alloc (.cells #[.slice p N c] 24)) #[.string nm] 9 0 _ rfl
  simp only [World.size_alloc] at hcl2
  have HC:=Lib.hid (KF.out _ _ hbx hcl2)
  have HBX:=Lib.hid hbx
  clear h hcl hN hbx hcl2 KF
  go_enter Tryz.func83,Tryz.ntmps83
  go_wp2_with fail
  refine HC.out.mono ?_
  rintro e w2 ⟨rfl,hb2⟩
  go_wp2_with fail
  go_ret2
  exact⟨rfl,below_next HBX.out hb2⟩
set_option maxRecDepth 100000 in
set_option maxHeartbeats 2000000 in
theorem method_any (nm:ByteArray) (cl:Tr.C) (fv v:Value) (w:World) (hfv:SlStr w fv cl.fields) (h:SlM w v cl.methods):
 Calls Tryz.prog 87 #[classV cl fv v,.string nm] w fun e w'=>e= .returned (.tuple #[.int .i64 ((Ck.methodAt cl.methods nm).getD 0:Nat),.bool (Ck.methodAt cl.methods nm).isSome])∧Below w.heap.size w w':=by
 obtain⟨p,c,rfl⟩:=h.form
 obtain⟨pf,cf,rfl⟩:=hfv.form
 obtain⟨FN,hFN⟩:∃N,cl.fields.length=N:=⟨_,rfl⟩
 unfold classV
 rw [hFN]
 clear hfv hFN
 have hll:=h.len
 unfold maxLen at hll
 have KF:Hid (∀W B,Below w.heap.size w W→W.cell? ⟨B,0,none⟩=some (.string nm)→Calls Tryz.prog 125 #[.slice p cl.methods.length c,.func (.func 126) #[] #[.pointer (some ⟨B,0,none⟩)]] W fun e w'=>e= .returned (.int .i64 (idxI (Ck.methodAt cl.methods nm)))∧Below W.heap.size W w'):=fun W B hb hB=>
  findM_any nm cl.methods B W hB _ (h.keep hb)
 cases hcl:Ck.methodAt cl.methods nm with
 |none=>
  rw [hcl] at KF
  simp only [idxI] at KF
  obtain⟨N,hN⟩:∃N,cl.methods.length=N:=⟨_,rfl⟩
  rw [hN] at KF ⊢
  have hbx:=below_next (below_box w (.cells #[.string cl.name,.bool cl.actor,.slice pf FN cf,.slice p N c] 55)) (below_box (w.alloc (.cells #[.string cl.name,.bool cl.actor,.slice pf FN cf,.slice p N c] 55)) (.cells #[.string nm] 9))
  have hcl2:=box_cell (w.alloc (.cells #[.string cl.name,.bool cl.actor,.slice pf FN cf,.slice p N c] 55)) #[.string nm] 9 0 _ rfl
  simp only [World.size_alloc] at hcl2
  have HC:=Lib.hid (KF.out _ _ hbx hcl2)
  have HBX:=Lib.hid hbx
  clear h hcl hN hbx hcl2 KF
  go_enter Tryz.func87,Tryz.ntmps87
  go_wp2_with fail
  refine HC.out.mono ?_
  rintro e w2 ⟨rfl,hb2⟩
  go_wp2_with fail
  go_ret2
  exact⟨rfl,below_next HBX.out hb2⟩
 |some i=>
  rw [hcl] at KF
  simp only [idxI] at KF
  have hil:=find_lt hcl
  obtain⟨N,hN⟩:∃N,cl.methods.length=N:=⟨_,rfl⟩
  rw [hN] at KF hil hll ⊢
  have hbx:=below_next (below_box w (.cells #[.string cl.name,.bool cl.actor,.slice pf FN cf,.slice p N c] 55)) (below_box (w.alloc (.cells #[.string cl.name,.bool cl.actor,.slice pf FN cf,.slice p N c] 55)) (.cells #[.string nm] 9))
  have hcl2:=box_cell (w.alloc (.cells #[.string cl.name,.bool cl.actor,.slice pf FN cf,.slice p N c] 55)) #[.string nm] 9 0 _ rfl
  simp only [World.size_alloc] at hcl2
  have HC:=Lib.hid (KF.out _ _ hbx hcl2)
  have HBX:=Lib.hid hbx
  clear h hcl hN hbx hcl2 KF
  go_enter Tryz.func87,Tryz.ntmps87
  go_wp2_with fail
  refine HC.out.mono ?_
  rintro e w2 ⟨rfl,hb2⟩
  go_wp2_with fail
  go_ret2
  exact⟨rfl,below_next HBX.out hb2⟩
end Go.Proofs.YtcnmfcgmnkncaaaGreatDoor
namespace Go.Proofs.YtcnmfcgmnkncaaaGreatDoor
namespace Cw
open Go.RowKit Go.Maps Pw
set_option maxRecDepth 100000 in
set_option maxHeartbeats 4000000 in
theorem index_any (s:ByteArray) (v:Value) (l:List ByteArray) (w:World) (h:SlStr w v l):
 Calls Tryz.prog 134 #[v,.string s] w fun e w'=>e= .returned (.int .i64 (Co.idx l s))∧w'=w:=by
 obtain⟨p,c,rfl,hl,hn,hx⟩:=h
 unfold maxLen at hl
 obtain⟨N,hN⟩:∃N,l.length=N:=⟨_,rfl⟩
 rw [hN] at hl ⊢
 have HX:=Lib.hid hx
 have HN:=Lib.hid hN
 clear hx hn hN
 go_enter Tryz.func134,Tryz.ntmps134
 go_wp2
 go_loop [8] (fun s8=>∃j:Nat,s8= .int .i64 j∧j≤N∧(∀t x,t<j→l[t]? =some x→decide (x=s)=false)) (fun s8=>N -(intOf s8).toNat)
 case atStart=>exact ⟨0,rfl,Nat.zero_le _,fun t x ht=>by omega⟩
 case round=>
  obtain⟨j,rfl,hj,hall⟩:=hrel
  have HA:=Lib.hid hall
  clear hall
  by_cases hlt:j<N
  ·obtain⟨x,hjx⟩:∃x,l[j]? =some x:=⟨_,List.getElem?_eq_getElem (by rw [HN.out];exact hlt)⟩
   obtain⟨_,b,o,rfl,_,hc⟩:=HX.out j x hjx
   have HJ:=Lib.hid hjx
   clear hjx
   cases hv:decide (x=s)
   ·have hv2:decide (s=x)=false:=by rw [←hv];congr 1;exact propext ⟨Eq.symm,Eq.symm⟩
    have hq:(s.toList == x.toList)=false:=by rw [bytes_beq,hv2]
    have HV:=Lib.hid hv
    clear hv hv2
    go_wp2_with fail
    go_round
    case rel=>
     refine⟨j+1,by go_num,by omega,fun t y ht hty=>?_⟩
     by_cases e:t=j
     ·subst e;rw [HJ.out] at hty;cases hty;exact HV.out
     ·exact HA.out t y (by omega) hty
    case measure=>simp [intOf];omega
   ·have hv2:decide (s=x)=true:=by rw [←hv];congr 1;exact propext ⟨Eq.symm,Eq.symm⟩
    have hq:(s.toList == x.toList)=true:=by rw [bytes_beq,hv2]
    have hf:Hid (Co.idx l s=(j:Int)):=Lib.hid (by unfold Co.idx;rw [find_hit HA.out HJ.out hv])
    clear hv hv2
    go_wp2_with fail
    go_ret
    exact⟨by rw [hf.out];rfl,rfl⟩
  ·have hf:Hid (Co.idx l s= -1):=Lib.hid (by unfold Co.idx;rw [find_no (n:=N) HN.out (fun t x ht=>HA.out t x (by omega))])
   go_wp2_with fail
   go_ret
   exact⟨by rw [hf.out];rfl,rfl⟩
theorem idx_name {g:Co.G} {s:ByteArray} (h:0≤Co.idx g.names s):(Co.name g s).1=g∧((Co.name g s).2:Int)=Co.idx g.names s:=by
 unfold Co.idx at h ⊢
 unfold Co.name
 cases hf:g.names.findIdx? (fun x=>decide (x=s)) with
 |some i=>exact ⟨rfl,rfl⟩
 |none=>rw [hf] at h;exact absurd h (by decide)
theorem idx_none {g:Co.G} {s:ByteArray} (h:¬0≤Co.idx g.names s):(Co.name g s).1= { g with names:=g.names++ [s] }∧(Co.name g s).2=g.names.length:=by
 unfold Co.idx at h
 unfold Co.name
 cases hf:g.names.findIdx? (fun x=>decide (x=s)) with
 |some i=>rw [hf] at h;exact absurd (Int.natCast_nonneg i) h
 |none=>exact ⟨rfl,rfl⟩
def NQ (B0 gb:Nat) (cs:List Tr.C) (cl:Tr.C) (pv fv mv:Value) (g':Co.G) (r:Int) (cv nv vv:Value) (w:World) (e:Ending) (w':World):Prop:=
 e= .returned (.int .i64 r)∧∃cv' nv' vv',GS B0 gb cs cl pv fv mv g' cv' nv' vv' w'∧Gr w (owl gb cv nv vv) w' (owl gb cv' nv' vv')
theorem Mg.named {B0 gb:Nat} {cs:List Tr.C} {cl:Tr.C} {pv fv mv:Value} {g g':Co.G} {cv nv vv:Value} {w W W':World} {o0:List Nat} {bs:List Bk} {os:List (World→Prop)} {r:Int} (h:Mg B0 gb cs cl pv fv mv w o0 g cv nv vv bs os W) {e:Ending} (hp:NQ B0 gb cs cl pv fv mv g' r cv nv vv W e W'):e= .returned (.int .i64 r)∧∃cv' nv' vv',Hid (Mg B0 gb cs cl pv fv mv w o0 g' cv' nv' vv' bs os W'):=by
 obtain⟨he,c,n,v,h1,h2⟩:=hp
 exact⟨he,c,n,v,Lib.hid (Mg.move h h1 h2)⟩
set_option maxRecDepth 100000 in
set_option maxHeartbeats 16000000 in
theorem name_any {B0 gb:Nat} {cs:List Tr.C} {cl:Tr.C} {pv fv mv:Value} {g:Co.G} {cv nv vv:Value} {w:World} (h:GS B0 gb cs cl pv fv mv g cv nv vv w) (hB:B0≤w.heap.size) {n:Nat} (hbd:Co.Bd n g∧n≤900000) (s:ByteArray) (hsz:s.size≤maxLen):
 Calls Tryz.prog 135 #[.pointer (some ⟨gb,0,none⟩),.string s] w (NQ B0 gb cs cl pv fv mv (Co.name g s).1 (Co.name g s).2 cv nv vv w):=by
 obtain⟨i0,hi0,hz0,hz1,hz2⟩:=info_parts strInfo
 have hwl:wrap64 (g.names.length:Int)=g.names.length:=by have:=hbd.1.names;have:=hbd.2;unfold wrap64;omega
 have HBD:=Lib.hid hbd
 have HSZ:=Lib.hid hsz
 have KI:=Lib.hid (index_any s nv g.names w (str_of_row h.names h.ns))
 have CG:=Lib.hid (Mg.start (os:= []) h hB (fun _ h=>by cases h))
 have gl:=lt_of_block h.blk
 have g6:=gcell h (j:=6) rfl
 have gf6:=gfree h 6
 clear h hB hbd hsz
 by_cases hi:0≤Co.idx g.names s
 ·obtain⟨e1,e2⟩:=idx_name hi
  rw [e1,e2]
  obtain⟨I,hI⟩:∃q,Co.idx g.names s=q:=⟨_,rfl⟩
  rw [hI] at KI hi ⊢
  clear hI e1 e2
  go_enter Tryz.func135,Tryz.ntmps135
  go_wp2_with fail
  refine KI.out.mono ?_
  rintro e w' ⟨rfl,hww⟩
  subst hww
  go_wp2_with fail
  go_ret
  exact⟨rfl,_,_,_,CG.out.q,CG.out.gr⟩
 ·obtain⟨e1,e2⟩:=idx_none hi
  rw [e1,e2]
  obtain⟨I,hI⟩:∃q,Co.idx g.names s=q:=⟨_,rfl⟩
  rw [hI] at KI hi
  clear hI e1 e2
  go_enter Tryz.func135,Tryz.ntmps135
  go_wp2_with fail
  refine KI.out.mono ?_
  rintro e w' ⟨rfl,hww⟩
  rw [hww]
  clear hww
  obtain⟨G,wg,HG,HWG,hxg,CH⟩:=CG.out.boxE #[.string s] 9
  clear gl g6 gf6
  have gl:=lt_of_block CH.out.q.blk
  have g6:=gcell CH.out.q (j:=6) (u:=nv) rfl
  have gf6:=gfree CH.out.q 6
  have g60:=gcell CG.out.q (j:=6) (u:=nv) rfl
  go_wp2_with (at_builtin;rw [←HG.out,←HWG.out];refine wpList_app1 nCells_len rfl _ _ 49 rfl i0 (.string ⟨#[]⟩) 16 Tryz.underlying49 hi0 hz0 hz1 hz2 rfl (by decide) rfl CH.out.q.names G #[.string s] s rfl (CH.out.b 0 rfl) rfl (nCells_one1 _) (by have:=HBD.out.1.names;have:=HBD.out.2;unfold maxLen;omega) (by have:=HBD.out.1.names;have:=HBD.out.2;omega) (Nat.le_trans CH.out.hB CH.out.le) ?_;intro v9 wa hr9 hg9 hf9;obtain⟨h1,h2⟩:=CH.out.q.addName hr9 hg9 hf9 HSZ.out;have CA:=Lib.hid (Mg.move CH.out h1 h2);obtain⟨pc,cc,hv9⟩:=own_form hr9;have hb9:=gr_at hg9 CH.out.q.blk (fun e=>(nd_owl.1 CH.out.q.nd).1.2.1 e.symm);have gla:=lt_of_block hb9;have ga6:=cell_of_blkP hb9 (j:=6) (u:=nv) rfl;have gaf6:=blk_free hb9 6;subst hv9;clear h1 h2 hr9 hg9 hf9 hb9 CH gl g6 gf6 g60)
  go_ret
  have hl9:(g.names++ [s]).length=g.names.length+1:=by simp
  rw [hl9] at CA
  refine⟨?_,_,_,_,CA.out.q,CA.out.gr⟩
  first|rfl|(simp [hwl];done)
end Cw
end Go.Proofs.YtcnmfcgmnkncaaaGreatDoor
namespace Go.Proofs.YtcnmfcgmnkncaaaGreatDoor
namespace Cw
open Go.RowKit Go.Maps Pw Go.Shelf
attribute [local go_sem] Oper.semAt_some
def upto {α:Type} (f:Nat→α) (k:Nat):List α:=(List.range k).map f
theorem upto_succ {α:Type} (f:Nat→α) (k:Nat):upto f (k+1)=upto f k++ [f k]:=by simp [upto,List.range_succ]
theorem upto_length {α:Type} (f:Nat→α) (k:Nat):(upto f k).length=k:=by simp [upto]
set_option maxRecDepth 100000 in
set_option maxHeartbeats 4000000 in
theorem back1_in (F:Fence) (n:Nat) (h7:F.fn 188) (hro:F.round=none) (hn:1≤n) (l Bs n₀ b off cap:Nat) (zs:List (ByteArray × Nat)) (hreach:zs.length≤1000000) (hb:b<n₀) (J Jx:List (Nat × (ByteArray × Nat))→World→Prop)
 (hY:∀pre x W,J pre W→pre.length<zs.length→YieldAt F (n -1) Tryz.prog l ((fun x:Nat × (ByteArray × Nat)=> #[Value.int .i64 (x.1:Int),.agg #[.string x.2.1,.int .i64 (x.2.2:Nat)]]) x) W fun e W'=>
  (e= .returned (.bool true)∧J (pre++ [x]) W'∧Below n₀ W W')∨(e= .returned (.bool false)∧Jx (pre++ [x]) W'))
 (W:World) (hBn:Bs<n₀) (hBs:W.cell? ⟨Bs,0,none⟩=some (.slice (some ⟨b,off,none⟩) zs.length cap)) (hc:∀j,j<zs.length→W.cell? ⟨b,off+j*2,none⟩=some (.string (zs[j]?.getD (⟨⟨#[]⟩,0⟩:ByteArray × Nat)).1)∧W.cell? ⟨b,off+j*2+1,none⟩=some (.int .i64 ((zs[j]?.getD (⟨⟨#[]⟩,0⟩:ByteArray × Nat)).2:Nat))) (h0:J [] W):
 CallsIn F n Tryz.prog 188 #[.func (.yield l) #[] #[],.pointer (some ⟨Bs,0,none⟩)] W fun e W'=>(∃v,e= .returned v)∧
  ((∃ys,ys=upto (fun j=>(zs.length -1 -j,zs[zs.length -1 -j]?.getD (⟨⟨#[]⟩,0⟩:ByteArray × Nat))) zs.length∧J ys W')∨(∃pre,(∃k,k≤zs.length∧pre=upto (fun j=>(zs.length -1 -j,zs[zs.length -1 -j]?.getD (⟨⟨#[]⟩,0⟩:ByteArray × Nat))) k)∧Jx pre W')):=by
 obtain⟨N,hN⟩:∃q,zs.length=q:=⟨_,rfl⟩
 rw [hN] at hY hBs hc hreach ⊢
 clear hN
 refine callsIn_of_wp Tryz.func188 rfl h7 ?_ hro
 simp only [Tryz.ntmps188,List.size_toArray,List.length_cons,List.length_nil,Nat.reduceAdd,Nat.reduceSub,Array.replicate_succ,Array.replicate_zero,List.push_toArray,List.append_toArray,List.nil_append,List.cons_append]
 gi_wp2
 gi_loopw [3] (fun i wr=>∃k:Nat,k≤N∧((∃m:Nat,i= .int .i64 m∧m+k+1=N)∨(i= .int .i64 (-1)∧k=N))∧J (upto (fun j=>(N -1 -j,zs[N -1 -j]?.getD (⟨⟨#[]⟩,0⟩:ByteArray × Nat))) k) wr∧Below n₀ W wr)
  (fun i _=>(intOf i+1).toNat)
 case atStart=>
  refine⟨0,Nat.zero_le _,?_,h0,Below.refl _ _⟩
  cases N with
  |zero=>exact .inr ⟨by go_num,rfl⟩
  |succ N=>exact .inl ⟨N,by go_num,rfl⟩
 case round=>
  obtain⟨k,hk,hi,hJs,hnx⟩:=hrel
  rcases hi with ⟨m,rfl,hm⟩|⟨rfl,rfl⟩
  ·have hmN:m<N:=by omega
   obtain⟨hc1,hc2⟩:=hc m hmN
   have hx1:=(hnx.cell (p:=⟨b,off+m*2,none⟩) hb).trans hc1
   have hx2:=(hnx.cell (p:=⟨b,off+m*2+1,none⟩) hb).trans hc2
   have hxs:=(hnx.cell (p:=⟨Bs,0,none⟩) hBn).trans hBs
   have h0m:(0:Int)≤(m:Int):=by omega
   have h1m:(m:Int)<(N:Int):=by omega
   obtain⟨fn,tmps,assign,body,hy,hR⟩:=hY _ (m,zs[m]?.getD (⟨⟨#[]⟩,0⟩:ByteArray × Nat)) wr hJs (by rw [upto_length];omega)
   dsimp only at hy
   have hfm:(fun j=>(N -1 -j,zs[N -1 -j]?.getD (⟨⟨#[]⟩,0⟩:ByteArray × Nat))) k=(m,zs[m]?.getD (⟨⟨#[]⟩,0⟩:ByteArray × Nat)):=by
    have e:N -1 -k=m:=by omega
    show(N -1 -k,zs[N -1 -k]?.getD (⟨⟨#[]⟩,0⟩:ByteArray × Nat))=_
    rw [e]
   gi_wp2
   refine hR.mono ?_
   rintro e W3 (⟨rfl,hJ3,hk3⟩|⟨rfl,hJx3⟩)
   ·gi_wp2
    go_roundw
    case rel=>
     refine⟨k+1,by omega,?_,by rw [upto_succ,hfm];exact hJ3,hnx.trans hk3⟩
     cases m with
     |zero=>exact .inr ⟨by go_num,by omega⟩
     |succ m=>exact .inl ⟨m,by go_num,by omega⟩
    case measure=>first|(simp [intOf];done)|(simp [intOf];omega)
   ·gi_wp2
    refine bodyPost_ret (results_none rfl _ _ _) rfl ?_
    exact⟨⟨_,rfl⟩,.inr ⟨_,⟨k+1,by omega,by rw [upto_succ,hfm]⟩,hJx3⟩⟩
  ·gi_wp2
   go_end0
   exact⟨⟨_,rfl⟩,.inl ⟨_,rfl,hJs⟩⟩
set_option maxRecDepth 100000 in
set_option maxHeartbeats 1000000 in
theorem back1_nil_in (F:Fence) (n:Nat) (h7:F.fn 188) (hro:F.round=none) (l Bs c:Nat) (p:Option Addr) (J:List (Nat × (ByteArray × Nat))→World→Prop) (W:World) (hBs:W.cell? ⟨Bs,0,none⟩=some (.slice p 0 c)) (h0:J [] W):
 CallsIn F n Tryz.prog 188 #[.func (.yield l) #[] #[],.pointer (some ⟨Bs,0,none⟩)] W fun e W'=>(∃v,e= .returned v)∧J [] W':=by
 refine callsIn_of_wp Tryz.func188 rfl h7 ?_ hro
 simp only [Tryz.ntmps188,List.size_toArray,List.length_cons,List.length_nil,Nat.reduceAdd,Nat.reduceSub,Array.replicate_succ,Array.replicate_zero,List.push_toArray,List.append_toArray,List.nil_append,List.cons_append]
 gi_wp2
 gi_loopw [3] (fun i wr=>i= .int .i64 (-1)∧J [] wr) (fun _ _=>0)
 case atStart=>exact ⟨by go_num,h0⟩
 case round=>
  obtain⟨rfl,hJs⟩:=hrel
  gi_wp2
  go_end0
  exact⟨⟨_,rfl⟩,hJs⟩
set_option maxHeartbeats 1000000 in
theorem back_in (F:Fence) (n:Nat) (h5:F.fn 171) (hro:F.round=none) (a:Option Addr) (len cap:Nat) (w:World):
 CallsIn F n Tryz.prog 171 #[.slice a len cap] w fun e w'=>e= .returned (.func (.func 188) #[] #[.pointer (some ⟨w.heap.size,0,none⟩)])∧w'=w.alloc (.cells #[.slice a len cap] 102):=by
 refine callsIn_of_wp Tryz.func171 rfl h5 ?_ hro
 simp only [Tryz.ntmps171,List.size_toArray,List.length_cons,List.length_nil,Nat.reduceAdd,Nat.reduceSub,Array.replicate_succ,Array.replicate_zero,List.push_toArray,List.append_toArray,List.nil_append,List.cons_append]
 gi_wp2
 go_ret
 exact⟨rfl,rfl⟩
def VarsAt (n₀:Nat) (W:World) (sv:Value) (zs:List (ByteArray × Nat)):Prop:=
 ∃p cap,sv= .slice p zs.length cap∧(zs= []∨∃b off,p=some ⟨b,off,none⟩∧b<n₀∧∀j,j<zs.length→W.cell? ⟨b,off+j*2,none⟩=some (.string (zs[j]?.getD (⟨⟨#[]⟩,0⟩:ByteArray × Nat)).1)∧W.cell? ⟨b,off+j*2+1,none⟩=some (.int .i64 ((zs[j]?.getD (⟨⟨#[]⟩,0⟩:ByteArray × Nat)).2:Nat)))
theorem VarsAt.below {n₀:Nat} {A B:World} (h:Below n₀ A B) {sv:Value} {zs:List (ByteArray × Nat)}:VarsAt n₀ A sv zs→VarsAt n₀ B sv zs:=by
 rintro ⟨p,cap,e,hz⟩
 refine⟨p,cap,e,?_⟩
 rcases hz with hz|⟨b,off,e2,hb,hc⟩
 ·exact .inl hz
 ·exact .inr ⟨b,off,e2,hb,fun j hj=>⟨(h.cell (p:=⟨b,off+j*2,none⟩) hb).trans (hc j hj).1,(h.cell (p:=⟨b,off+j*2+1,none⟩) hb).trans (hc j hj).2⟩⟩
theorem back_stops (F:Fence) (n:Nat) (h7:F.fn 188) (hro:F.round=none) (hn:1≤n) (Bs n₀ m₀:Nat) (sv:Value) (zs:List (ByteArray × Nat)) (hreach:zs.length≤1000000) (w:World) (hBs:Bs<n₀) (hm:m₀≤n₀) (hn₀:n₀≤w.heap.size)
 (hc:w.cell? ⟨Bs,0,none⟩=some sv) (hI:VarsAt m₀ w sv zs):
 SeqStopsK F n Tryz.prog 188 #[.pointer (some ⟨Bs,0,none⟩)] (fun x:Nat × (ByteArray × Nat)=> #[Value.int .i64 (x.1:Int),.agg #[.string x.2.1,.int .i64 (x.2.2:Nat)]]) (Below n₀) (fun ys=>ys=upto (fun j=>(zs.length -1 -j,zs[zs.length -1 -j]?.getD (⟨⟨#[]⟩,0⟩:ByteArray × Nat))) zs.length)
  (fun pre=>∃k,k≤zs.length∧pre=upto (fun j=>(zs.length -1 -j,zs[zs.length -1 -j]?.getD (⟨⟨#[]⟩,0⟩:ByteArray × Nat))) k) zs.length w:=fun l J Jx W hW _ _ hY h0=>by
 have hc':=(hW.cell (p:=⟨Bs,0,none⟩) (Nat.lt_of_lt_of_le hBs hn₀)).trans hc
 obtain⟨p,cap,rfl,hz⟩:=hI.below (hW.mono (Nat.le_trans hm hn₀))
 rcases hz with rfl|⟨b,off,rfl,hb,hcs⟩
 ·exact(back1_nil_in F n h7 hro l Bs _ _ J W hc' h0).mono fun e W' ⟨he,hj⟩=>⟨he,.inl ⟨_,rfl,hj⟩⟩
 ·exact back1_in F n h7 hro hn l Bs n₀ b off cap zs hreach (Nat.lt_of_lt_of_le hb hm) J Jx hY W hBs hc' hcs h0
theorem findL_some {α:Type} {p:α→Bool}:∀ {L:List α} {k:Nat} {y:α},(∀(t:Nat) (x:α),t<k→L[t]? =some x→p x=false)→L[k]? =some y→p y=true→L.find? p=some y
 | [],k,y,_,h,_=>by simp at h
 |x::r,0,y,_,h,hy=>by cases h;rw [List.find?_cons,hy]
 |x::r,k+1,y,hp,h,hy=>by
  rw [List.find?_cons,hp 0 x (by omega) rfl]
  exact findL_some (L:=r) (k:=k) (fun t z ht hz=>hp (t+1) z (by omega) (by simpa using hz)) (by simpa using h) hy
theorem findL_none {α:Type} {p:α→Bool} {L:List α} (hp:∀(t:Nat) (x:α),L[t]? =some x→p x=false):L.find? p=none:=by
 rw [List.find?_eq_none]
 intro x hx
 obtain⟨t,ht⟩:=List.mem_iff_getElem?.1 hx
 rw [hp t x ht]
 decide
theorem rev_get {zs:List (ByteArray × Nat)} {t:Nat} {x:ByteArray × Nat} (h:zs.reverse[t]? =some x):t<zs.length∧x=zs[zs.length -1 -t]?.getD (⟨⟨#[]⟩,0⟩:ByteArray × Nat):=by
 have hlt:t<zs.length:=by
  have:=(List.getElem?_eq_some_iff.1 h).1
  rwa [List.length_reverse] at this
 rw [List.getElem?_reverse hlt] at h
 rw [h]
 exact⟨hlt,rfl⟩
theorem local_none {g:Co.G} {s:ByteArray} (h:∀p∈upto (fun j=>(g.vars.length -1 -j,g.vars[g.vars.length -1 -j]?.getD (⟨⟨#[]⟩,0⟩:ByteArray × Nat))) g.vars.length,p.2.1≠s):Co.local_ g s= -1:=by
 unfold Co.local_
 rw [findL_none (fun t x ht=>?_)]
 obtain⟨hlt,rfl⟩:=rev_get ht
 exact decide_eq_false (h (g.vars.length -1 -t,_) (List.mem_map.2 ⟨t,List.mem_range.2 hlt,rfl⟩))
theorem local_some {g:Co.G} {s:ByteArray} {k:Nat} (hk:k<g.vars.length) (h:∀p∈upto (fun j=>(g.vars.length -1 -j,g.vars[g.vars.length -1 -j]?.getD (⟨⟨#[]⟩,0⟩:ByteArray × Nat))) k,p.2.1≠s) (hs:(g.vars[g.vars.length -1 -k]?.getD (⟨⟨#[]⟩,0⟩:ByteArray × Nat)).1=s):Co.local_ g s=(g.vars[g.vars.length -1 -k]?.getD (⟨⟨#[]⟩,0⟩:ByteArray × Nat)).2:=by
 unfold Co.local_
 have hg:g.vars.reverse[k]? =some (g.vars[g.vars.length -1 -k]?.getD (⟨⟨#[]⟩,0⟩:ByteArray × Nat)):=by
  rw [List.getElem?_reverse hk,List.getElem?_eq_getElem (by omega)]
  rfl
 rw [findL_some (k:=k) (y:=g.vars[g.vars.length -1 -k]?.getD (⟨⟨#[]⟩,0⟩:ByteArray × Nat)) (fun t x ht hx=>?_) hg (decide_eq_true hs)]
 obtain⟨hlt,rfl⟩:=rev_get hx
 exact decide_eq_false (h (g.vars.length -1 -t,_) (List.mem_map.2 ⟨t,List.mem_range.2 ht,rfl⟩))
theorem vars_at {B0 gb:Nat} {cs:List Tr.C} {cl:Tr.C} {pv fv mv:Value} {g:Co.G} {cv nv vv:Value} {w:World} (h:GS B0 gb cs cl pv fv mv g cv nv vv w):VarsAt w.heap.size w vv g.vars:=by
 rcases own_cells vCells_len h.vars with ⟨e,rfl⟩|⟨b,cap,rfl,hb,hn,hm,hc⟩
 ·exact⟨none,0,by rw [e];rfl,.inl e⟩
 ·refine⟨_,cap,rfl,?_⟩
  by_cases h0:g.vars= []
  ·exact .inl h0
  ·refine .inr ⟨b,0,rfl,(own_lt h.vars rfl).2,fun j hj=>?_⟩
   have hx:g.vars[j]? =some (g.vars[j]?.getD (⟨⟨#[]⟩,0⟩:ByteArray × Nat)):=by rw [List.getElem?_eq_getElem hj];rfl
   have c1:=hc j _ hx 0 _ rfl
   have c2:=hc j _ hx 1 _ rfl
   rw [Nat.add_zero] at c1
   rw [Nat.zero_add]
   exact⟨c1,c2⟩
set_option maxRecDepth 100000 in
set_option maxHeartbeats 8000000 in
theorem local_in (F:Fence) (n:Nat) (h3:F.fn 133) (h5:F.fn 171) (h7:F.fn 188) (hro:F.round=none) (hn:3≤n) {B0 gb:Nat} {cs:List Tr.C} {cl:Tr.C} {pv fv mv:Value} {g:Co.G} {cv nv vv:Value} {w:World} (h:GS B0 gb cs cl pv fv mv g cv nv vv w) (hv:g.vars.length≤1000000) (s:ByteArray):
 CallsIn F n Tryz.prog 133 #[.pointer (some ⟨gb,0,none⟩),.string s] w fun e W'=>e= .returned (.int .i64 (Co.local_ g s))∧Below w.heap.size w W':=by
 have h1:1≤n:=by omega
 have hI:=vars_at h
 obtain⟨p,cap,hvv,_⟩:=id hI
 have g7:=gcell h (j:=7) (u:=vv) rfl
 have gl:=lt_of_block h.blk
 have HLN:=Lib.hid (local_none (g:=g) (s:=s))
 have HLS:=Lib.hid (fun k=>local_some (g:=g) (s:=s) (k:=k))
 obtain⟨L,hL⟩:∃q,Co.local_ g s=q:=⟨_,rfl⟩
 rw [hL] at HLN HLS ⊢
 rw [hvv] at g7 hI
 obtain⟨zs,hzs⟩:∃q,g.vars=q:=⟨_,rfl⟩
 rw [hzs] at hI HLN HLS hv g7
 clear h hvv hL hzs
 obtain⟨N,hN⟩:∃q,zs.length=q:=⟨_,rfl⟩
 rw [hN] at g7 hI
 refine callsIn_of_wp_marks Tryz.func133 rfl h3 ?_ hro
 simp only [Tryz.ntmps133,List.size_toArray,List.length_cons,List.length_nil,Nat.reduceAdd,Nat.reduceSub,Array.replicate_succ,Array.replicate_zero,List.push_toArray,List.append_toArray,List.nil_append,List.cons_append]
 have hb1:=below_box w (.cells #[.string s] 9)
 have hb2:=below_next hb1 (below_box (w.alloc (.cells #[.string s] 9)) (.cells #[.int .i64 0] 3))
 have g7a:=cell_keep' hb2 g7
 have gla:=Nat.lt_of_lt_of_le gl hb2.size
 gi_wp2_with (gi_at_call 171;refine(back_in F (n -1) h5 hro _ _ _ _).mono ?_;rintro e w' ⟨rfl,rfl⟩)
 have bS:=((Boxed.new w 9 (.string s)).alloc (.cells #[.int .i64 0] 3)).alloc (.cells #[.slice p N cap] 102)
 have bR:=(Boxed.new (w.alloc (.cells #[.string s] 9)) 3 (.int .i64 0)).alloc (.cells #[.slice p N cap] 102)
 have bN:=Boxed.new ((w.alloc (.cells #[.string s] 9)).alloc (.cells #[.int .i64 0] 3)) 102 (.slice p N cap)
 simp only [World.size_alloc] at bR bN
 have hB0:Below w.heap.size w (((w.alloc (.cells #[.string s] 9)).alloc (.cells #[.int .i64 0] 3)).alloc (.cells #[.slice p N cap] 102)):=(((Below.refl _ w).alloc (Nat.le_refl _) _).alloc (by simp) _).alloc (by simp;omega) _
 have hsz:(((w.alloc (.cells #[.string s] 9)).alloc (.cells #[.int .i64 0] 3)).alloc (.cells #[.slice p N cap] 102)).heap.size=w.heap.size+3:=by simp
 obtain⟨W0,hW0⟩:∃W0,((w.alloc (.cells #[.string s] 9)).alloc (.cells #[.int .i64 0] 3)).alloc (.cells #[.slice p N cap] 102)=W0:=⟨_,rfl⟩
 rw [hW0] at bS bR bN hB0 hsz ⊢
 clear hW0 g7a gla g7 gl hb1 hb2
 refine wpIn_rangeFunc_ownH hro h1 (gf:=188) (lb:= #[.pointer (some ⟨w.heap.size+1+1,0,none⟩)]) rfl h7 (enters_of Tryz.func188 (by kernel_rfl) rfl)
  (back_stops F (n -1) h7 hro (by omega) (w.heap.size+1+1) (w.heap.size+3) w.heap.size _ zs hv W0 (by omega) (by omega) (by omega) bN.cell (by rw [hN] at*;exact hI.below hB0)) belowK_t (belowK_b (by omega)) (Below.refl _ _) (fun _=>rfl)
  (fun pre W=>(((∀p∈pre,p.2.1≠s)∧Boxed W (w.heap.size+1) 3 (.int .i64 0)∧Boxed W w.heap.size 9 (.string s))∧Below w.heap.size w W)∧Below (w.heap.size+3) W0 W)
  (fun c pre W=>(c= .ret∧∃ini last,pre=ini++ [last]∧(∀p∈ini,p.2.1≠s)∧last.2.1=s∧W.cell? ⟨w.heap.size+1,0,none⟩=some (.int .i64 (last.2.2:Nat)))∧Below w.heap.size w W)
  (OwnFrom.and (OwnFrom.and (Own.from (fun q A B row hs hg hr=>⟨hs.1,boxed_own _ _ (fun (_:Unit)=>Value.int .i64 0) () A B row hs.2.1 hg hr,boxed_own _ _ (fun (_:Unit)=>Value.string s) () A B row hs.2.2 hg hr⟩) _) (ownFrom_below (Nat.le_refl _) (by omega))) (ownFrom_below (by omega) (by omega)))
  (fun c=>OwnFrom.and (Own.from (fun q A B row hs hg hr=>by obtain⟨hc,ini,last,e1,e2,e3,e4⟩:=hs;exact⟨hc,ini,last,e1,e2,e3,cell_kept e4 hg hr⟩) _) (ownFrom_below (Nat.le_refl _) (by omega)))
  ⟨⟨⟨by simp,bR,bS⟩,hB0⟩,Below.refl _ _⟩
  (fun x a' W=>∃Bx,w.heap.size+2<Bx∧W.heap[Bx]? =some (.cells #[.string x.2.1,.int .i64 (x.2.2:Nat)] 106 (0,0))∧a'= { tmps:= #[.pointer (some ⟨gb,0,none⟩),.string s,undef,.pointer (some ⟨w.heap.size,0,none⟩),.pointer (some ⟨w.heap.size+1,0,none⟩),undef,.pointer (some ⟨Bx,0,none⟩),.pointer (some ⟨gb,0,none⟩),.pointer (some ⟨gb,0,none⟩),.pointer (some ⟨gb,7,none⟩),.slice p N cap,.func (.func 188) #[] #[.pointer (some ⟨w.heap.size+1+1,0,none⟩)],.int .i64 (x.1:Int),.agg #[.string x.2.1,.int .i64 (x.2.2:Nat)],undef,undef,undef,undef,undef,undef],defers:= [] })
  (fun x a' _ X Y row hs hg hr=>by obtain⟨Bx,h1,h2,h3⟩:=hs;exact⟨Bx,h1,gr_at hg h2 (fun e=>by obtain⟨o,ho,hc⟩:=(hr Bx e.symm).2;rw [h2] at ho;cases ho;cases hc),h3⟩)
  ?assign ?body ?done ?stop
 case assign=>
  rintro l pre x W K ⟨⟨⟨hp,bR1,bS1⟩,hB1⟩,hB2⟩ hK
  have hsz2:=hB2.size
  gi_wp2
  exact hK _ _ ((KeepsOthers.alloc _ _).from _) ((Below.refl _ W).alloc (by omega) _) ⟨⟨⟨hp,bR1.alloc _,bS1.alloc _⟩,hB1.alloc hB1.size _⟩,hB2.alloc (by omega) _⟩ ⟨W.heap.size,by omega,new_at rfl,rfl⟩
 case body=>
  rintro l pre x a' W hl ⟨r,hr⟩ ⟨⟨⟨hp,bR1,bS1⟩,hB1⟩,hB2⟩ ⟨Bx,hBx,bX,rfl⟩ hlt
  have cS:=bS1.cell
  have cR:=bR1.cell
  have fR:=bR1.frozen
  have cX:=cell_of_blkP bX (j:=0) rfl
  have cX1:=cell_of_blkP bX (j:=1) rfl
  cases hv2:decide (x.2.1=s)
  ·have hq:(x.2.1.toList == s.toList)=false:=by rw [bytes_beq,hv2]
   gi_wp2
   exact⟨KeepsFrom.refl _ _,Below.refl _ _,⟨⟨fun p hp'=>(List.mem_append.1 hp').elim (hp p) (fun e=>by rw [List.mem_singleton.1 e];exact of_decide_eq_false hv2),bR1,bS1⟩,hB1⟩,hB2⟩
  ·have hq:(x.2.1.toList == s.toList)=true:=by rw [bytes_beq,hv2]
   gi_wp2
   exact⟨(KeepsOthers.setCell _ _ _).from _,⟨rfl,pre,x,rfl,hp,of_decide_eq_true hv2,World.cell?_setCell_same' _ _ _ (by rw [cR];rfl)⟩,hB1.setCell (p:=⟨w.heap.size+1,0,none⟩) (by simp) _⟩
 case done=>
  rintro D ys W hD rfl ⟨⟨⟨hne,bR1,bS1⟩,hB1⟩,_⟩ hK
  have cR:=bR1.cell
  have fR:=bR1.frozen
  gi_wp2
  have hK':=(KeepsOthers.setCell W ⟨w.heap.size+1,0,none⟩ (.int .i64 (-1))).same D _ hK rfl
  refine⟨by simp,.inl ⟨_,_,rfl,run_takeDeferred hK',?_⟩⟩
  have hc5:=cell_kept (World.cell?_setCell_same' W ⟨w.heap.size+1,0,none⟩ (.int .i64 (-1)) (by rw [cR];rfl)) (grownBy_putObj' _ D (.deferred none)) (fun r e=>by cases e;exact⟨_,hK',rfl⟩)
  refine⟨.int .i64 (-1),?_,by rw [HLN.out hne],(hB1.setCell (p:=⟨w.heap.size+1,0,none⟩) (by simp) _).trans (belowK_b (w:=w) (Nat.le_refl _) _ D _ _ (by omega) hK' rfl rfl)⟩
  simp [results,Tryz.f133,go_sem,hc5]
 case stop=>
  rintro D c pre W hD ⟨k,hk,rfl⟩ ⟨⟨rfl,ini,last,e1,e2,e3,hcr⟩,hB1⟩ hK
  gi_wp2
  refine⟨by simp,.inl ⟨_,_,rfl,run_takeDeferred hK,?_⟩⟩
  have hc5:=cell_kept hcr (grownBy_putObj' _ D (.deferred none)) (fun r e=>by cases e;exact⟨_,hK,rfl⟩)
  obtain⟨k',rfl⟩:∃k',k=k'+1:=by
   cases k with
   |zero=>simp [upto] at e1
   |succ k'=>exact ⟨k',rfl⟩
  rw [upto_succ] at e1
  obtain⟨rfl,e5⟩:=List.append_inj' e1 rfl
  have e6:(zs.length -1 -k',zs[zs.length -1 -k']?.getD (⟨⟨#[]⟩,0⟩:ByteArray × Nat))=last:=by simpa using e5
  subst e6
  refine⟨.int .i64 ((zs[zs.length -1 -k']?.getD (⟨⟨#[]⟩,0⟩:ByteArray × Nat)).2:Nat),?_,by rw [HLS.out k' (by omega) e2 e3],hB1.trans (belowK_b (w:=w) (Nat.le_refl _) W D _ _ (by omega) hK rfl rfl)⟩
  simp [results,Tryz.f133,go_sem,hc5]
theorem local_any {B0 gb:Nat} {cs:List Tr.C} {cl:Tr.C} {pv fv mv:Value} {g:Co.G} {cv nv vv:Value} {w:World} (h:GS B0 gb cs cl pv fv mv g cv nv vv w) (hv:g.vars.length≤1000000) (s:ByteArray):
 Calls Tryz.prog 133 #[.pointer (some ⟨gb,0,none⟩),.string s] w fun e W'=>e= .returned (.int .i64 (Co.local_ g s))∧Below w.heap.size w W':=
 callsIn_wide.1 (local_in Fence.wide 3 trivial trivial trivial rfl (by decide) h hv s)
end Cw
end Go.Proofs.YtcnmfcgmnkncaaaGreatDoor
namespace Go.Proofs.YtcnmfcgmnkncaaaGreatDoor
namespace Cw
open Go.RowKit Go.Maps Pw
theorem flat_set (L:Int):∀(l:List Co.Ins) (i:Nat),i<l.length→(flatV iCells l).set (i*3+1) (.int .i64 L)=flatV iCells (l.modify i fun x=>(x.1,L,x.2.2))
 | [],i,h=>by simp at h
 |x::r,0,_=>by
  rw [flatV_cons]
  show _=flatV iCells ((x.1,L,x.2.2)::r)
  rw [flatV_cons]
  rfl
 |x::r,i+1,h=>by
  have ih:=flat_set L r i (by simpa using h)
  show _=flatV iCells (x::r.modify i _)
  rw [flatV_cons,flatV_cons,←ih]
  have e:(i+1)*3+1=(i*3+1)+3:=by omega
  rw [e]
  rfl
theorem GS.patch {B0 gb:Nat} {cs:List Tr.C} {cl:Tr.C} {pv fv mv:Value} {g:Co.G} {cv nv vv:Value} {W:World} (h:GS B0 gb cs cl pv fv mv g cv nv vv W) {i:Nat} (hi:i<g.code.length) {cb cap:Nat} (hcv:cv= .slice (some ⟨cb,0,none⟩) g.code.length cap):
 (GS B0 gb cs cl pv fv mv (Co.patch g i) cv nv vv (W.setCell ⟨cb,i*3+1,none⟩ (.int .i64 g.code.length))∧Gr W (owl gb cv nv vv) (W.setCell ⟨cb,i*3+1,none⟩ (.int .i64 g.code.length)) (owl gb cv nv vv))∧cb<W.heap.size∧(∃u,W.cell? ⟨cb,i*3+1,none⟩=some u)∧W.frozen? ⟨cb,i*3+1,none⟩=false:=by
 have hown:cv.ownBlock=some cb:=by rw [hcv];rfl
 have hg:=gr_set W cb (i*3+1) (.int .i64 g.code.length)
 obtain⟨⟨d1,d2,d3⟩,d4,d5⟩:=nd_owl.1 h.nd
 have ho:∀q,q≠cb→q<W.heap.size→(W.setCell ⟨cb,i*3+1,none⟩ (.int .i64 g.code.length)).heap[q]? =W.heap[q]?:=fun q hq hlt=>hg.block q hlt (ne_sm hq)
 have hcb:=(own_lt h.code hown).1
 rcases h.code.2 with ⟨e,_⟩|⟨b,cap',cur,e,hb,hblk,hn,hm,hcs,ht⟩
 ·rw [hcv] at e
  cases e
 ·rw [hcv] at e
  injection e with e1 e2 e3
  injection e1 with e1
  injection e1 with e1
  subst e1
  subst e3
  have hsz:i*3+1<cur.size:=by rw [hcs];omega
  refine⟨⟨⟨(ho gb (fun e=>d1 (e▸hown)) (lt_of_block h.blk)).trans h.blk,?_,?_,?_,h.nd,h.ge,h.ns,h.vs,h.pc.inc (lo_inc hg.size (fun b hb h0=>ho b (by omega) hb)),h.fc.inc (lo_inc hg.size (fun b hb h0=>ho b (by omega) hb))⟩,Gr.by hg (mem_owl.2 (.inr (.inl hown)))⟩,lt_of_block hblk,⟨cur[i*3+1],cell_of_blkP hblk (Array.getElem?_eq_getElem hsz)⟩,blk_free hblk _⟩
  ·have hlen:(Co.patch g i).code.length=g.code.length:=Co.patch_len g i
   refine⟨by rw [hlen,←h.code.1];show(flatV iCells (g.code.modify i fun x=>(x.1,(g.code.length:Int),x.2.2))).length=_;rw [←flat_set _ _ _ hi,List.length_set],.inr ⟨cb,cap,cur.setIfInBounds (i*3+1) (.int .i64 g.code.length),by rw [hcv,hlen],hb,Pw.heap_set (j:=i*3+1) _ hblk,by rw [hlen];exact hn,hm,by rw [Array.size_setIfInBounds];exact hcs,?_⟩⟩
   show _=flatV iCells (g.code.modify i fun x=>(x.1,(g.code.length:Int),x.2.2))
   rw [←flat_set _ _ _ hi,←ht,hlen,Array.toList_setIfInBounds,List.take_set]
  ·exact own_kept h.names (fun q hq=>ho q (fun e=>(d4 cb hown).1 (e▸hq)) (own_lt h.names hq).2)
  ·exact own_kept h.vars (fun q hq=>ho q (fun e=>(d4 cb hown).2 (e▸hq)) (own_lt h.vars hq).2)
theorem Mz.callB {B0 V:Nat} {w W W':World} {o0 ow ow':List Nat} {Q Q':World→Prop} {bs nb:List Bk} {os:List (World→Prop)} (h:Mz B0 V w o0 Q ow bs os W) (hg:Gr W ow W' ow') (ho:∀b∈ow',b<W'.heap.size∧B0≤b) (hq:Q' W') (pk:∀ {U U':World},U.heap.size≤U'.heap.size→(∀b,b<U.heap.size→(b∈ow'∨b<B0)→U'.heap[b]? =U.heap[b]?)→Q' U→Q' U')
 (hn:∀x∈nb,W'.heap[x.1]? =some (.cells x.2.1 x.2.2 (0,0))∧W.heap.size≤x.1∧x.1∉ow') (hnd:(nb.map Prod.fst).Nodup):Mz B0 V w o0 Q' ow' (nb++bs) os W':=by
 have h1:=h.call hg ho hq pk
 refine⟨h1.q,h1.pk,h1.hB,h1.hV,h1.gr,h1.ol,fun x hx=>?_,?_,fun r hr=>⟨(h1.ro r hr).1,(h1.ro r hr).1 _ _ ?_ (h.ro r hr).2⟩⟩
 ·rcases List.mem_append.1 hx with hx|hx
  ·exact⟨(hn x hx).1,Nat.le_trans h.le (hn x hx).2.1,(hn x hx).2.2⟩
  ·exact h1.bl x hx
 ·rw [List.map_append,List.nodup_append]
  refine⟨hnd,h.nd,fun a ha b hb e=>?_⟩
  obtain⟨x,hx,rfl⟩:=List.mem_map.1 ha
  have:=(h.lts hb).2.1
  have:=(hn x hx).2.1
  omega
 ·refine⟨by rw [hide_size,hide_size];exact hg.size,fun b j v hc=>?_⟩
  obtain⟨hs,hc⟩:=hide_cell hc
  have hlt:=cell_lt' hc
  have hnot:b∉ow++bs.map Prod.fst:=fun hm=>by
   rw [upL_true.2 (.inr hm)] at hs
   cases hs
  have hvb:V≤b:=by
   rcases Nat.lt_or_ge b V with h2|h2
   ·rw [upL_true.2 (.inl h2)] at hs
    cases hs
   ·exact h2
  have hn1:b∉ow'++(nb++bs).map Prod.fst:=fun hm=>by
   rcases List.mem_append.1 hm with hm|hm
   ·rcases hg.own b hm with h2|h2
    ·exact hnot (List.mem_append.2 (.inl h2))
    ·omega
   ·rw [List.map_append] at hm
    rcases List.mem_append.1 hm with hm|hm
    ·obtain⟨x,hx,rfl⟩:=List.mem_map.1 hm
     have:=(hn x hx).2.1
     omega
    ·exact hnot (List.mem_append.2 (.inr hm))
  rw [hide_cell? (upL_ge hvb hn1)]
  have hb:=hg.keep b hlt (fun hm=>hnot (List.mem_append.2 (.inl hm)))
  unfold World.cell? at hc ⊢
  rw [hb]
  exact hc
def labV (X A:Nat):Value:= .func (.func 172) #[] #[.pointer (some ⟨X,0,none⟩),.pointer (some ⟨A,0,none⟩)]
def JQ (B0 gb:Nat) (cs:List Tr.C) (cl:Tr.C) (pv fv mv:Value) (g':Co.G) (k:Nat) (cv nv vv:Value) (w:World) (e:Ending) (w':World):Prop:=
 ∃X A cv' nv' vv',e= .returned (labV X A)∧GS B0 gb cs cl pv fv mv g' cv' nv' vv' w'∧Gr w (owl gb cv nv vv) w' (owl gb cv' nv' vv')∧
  w'.heap[X]? =some (.cells #[.pointer (some ⟨gb,0,none⟩)] 101 (0,0))∧w'.heap[A]? =some (.cells #[.int .i64 k] 3 (0,0))∧w.heap.size≤X∧w.heap.size≤A∧X∉owl gb cv' nv' vv'∧A∉owl gb cv' nv' vv'∧A≠X
theorem Mg.jumped {B0 gb:Nat} {cs:List Tr.C} {cl:Tr.C} {pv fv mv:Value} {g g':Co.G} {cv nv vv:Value} {w W W':World} {o0:List Nat} {bs:List Bk} {os:List (World→Prop)} {k:Nat} (h:Mg B0 gb cs cl pv fv mv w o0 g cv nv vv bs os W) {e:Ending} (hp:JQ B0 gb cs cl pv fv mv g' k cv nv vv W e W'):
 ∃X A cv' nv' vv',e= .returned (labV X A)∧Hid (Mg B0 gb cs cl pv fv mv w o0 g' cv' nv' vv' ((A,#[.int .i64 k],3)::(X,#[.pointer (some ⟨gb,0,none⟩)],101)::bs) os W'):=by
 obtain⟨X,A,c,n,v,he,h1,h2,h3,h4,h5,h6,h7,h8,h9⟩:=hp
 refine⟨X,A,c,n,v,he,Lib.hid (Mz.callB (nb:= [(A,#[.int .i64 k],3),(X,#[.pointer (some ⟨gb,0,none⟩)],101)]) h h2 h1.ol h1 (fun hs hk hq=>hq.keep hs hk) (fun x hx=>?_) ?_)⟩
 ·simp only [List.mem_cons,List.not_mem_nil,or_false] at hx
  rcases hx with rfl|rfl
  ·exact⟨h4,h6,h8⟩
  ·exact⟨h3,h5,h7⟩
 ·simp [h9]
set_option maxRecDepth 100000 in
set_option maxHeartbeats 16000000 in
theorem patch_any {B0 gb:Nat} {cs:List Tr.C} {cl:Tr.C} {pv fv mv:Value} {g:Co.G} {cv nv vv:Value} {w:World} (h:GS B0 gb cs cl pv fv mv g cv nv vv w) {n:Nat} (hbd:Co.Bd n g∧n≤900000) {k:Nat} (hk:k<g.code.length) {X A:Nat} (hX:w.heap[X]? =some (.cells #[.pointer (some ⟨gb,0,none⟩)] 101 (0,0))) (hA:w.heap[A]? =some (.cells #[.int .i64 k] 3 (0,0))) (hXo:X∉owl gb cv nv vv) (hAo:A∉owl gb cv nv vv):
 Calls Tryz.prog 172 #[.pointer (some ⟨X,0,none⟩),.pointer (some ⟨A,0,none⟩)] w (GQ B0 gb cs cl pv fv mv (Co.patch g k) cv nv vv w):=by
 have hB:B0≤w.heap.size:=by have h9:=h.ol gb (mem_owl.2 (.inl rfl));omega
 obtain⟨wd,HWD,CD⟩:=(Mg.start (os:= []) h hB (fun _ h=>by cases h)).drewE
 have hdh:wd.heap=w.heap:=by rw [HWD.out];rfl
 have hXd:=hX
 have hAd:=hA
 rw [←hdh] at hXd hAd
 clear hdh
 clear hX hA
 have h:=CD.out.q
 have HGR:=Lib.hid CD.out.gr
 have hX:=hXd
 have hA:=hAd
 obtain⟨cb,cap,hcv⟩:∃cb cap,cv= .slice (some ⟨cb,0,none⟩) g.code.length cap:=by
  rcases h.code.2 with ⟨_,e⟩|⟨b,cap,_,e,_⟩
  ·omega
  ·exact⟨b,cap,e⟩
 obtain⟨⟨h1,h2⟩,hlt,⟨u,hu⟩,hfr⟩:=h.patch hk hcv
 have hXc:=cell_of_blkP hX (j:=0) (u:= .pointer (some ⟨gb,0,none⟩)) rfl
 have hAc:=cell_of_blkP hA (j:=0) (u:= .int .i64 k) rfl
 have hgc:=gcell h (j:=5) (u:=cv) rfl
 have hown:cv.ownBlock=some cb:=by rw [hcv];rfl
 have hXn:X≠cb:=fun e=>hXo (mem_owl.2 (.inr (.inl (e▸hown))))
 have hAn:A≠cb:=fun e=>hAo (mem_owl.2 (.inr (.inl (e▸hown))))
 have hgn:gb≠cb:=fun e=>(nd_owl.1 h.nd).1.1 (e▸hown)
 have hgl:=lt_of_block h.blk
 have hNb:=hbd.1.code
 have hN9:=hbd.2
 rw [hcv] at hgc
 obtain⟨N,hN⟩:∃q,g.code.length=q:=⟨_,rfl⟩
 rw [hN] at hgc hk h1 h2 hNb
 have H1:=Lib.hid h1
 have H2:=Lib.hid h2
 have HXN:=Lib.hid hXn
 have HAN:=Lib.hid hAn
 have HGN:=Lib.hid hgn
 have b1:(0:Int)≤(k:Int):=by omega
 have b2:(k:Int)<(N:Int):=by omega
 clear h hX hA hXd hAd hXo hAo hbd hcv hown hXn hAn hgn h1 h2 hN hB CD
 go_enter Tryz.func172,Tryz.ntmps172
 go_upto_region 0 with fail
 refine wp_region_held_drew (S:=fun W=>W.cell? ⟨X,0,none⟩=some (.pointer (some ⟨gb,0,none⟩))∧W.cell? ⟨A,0,none⟩=some (.int .i64 k)∧W.cell? ⟨gb,5,none⟩=some (.slice (some ⟨cb,0,none⟩) N cap)) (by kernel_rfl) (by rw [←HWD.out];exact⟨hXc,hAc,hgc⟩) (fun hHeld=>?_)
 rw [←HWD.out] at hHeld ⊢
 clear HWD
 refine rT 0 (some 2) ?_
 try simp only [Act.put,q0,q1,q2]
 refine rT 1 (some 3) ?_
 try simp only [Act.put,q0,q1,q2]
 refine rT 2 (some 4) ?_
 try simp only [Act.put,q0,q1,q2]
 refine rT 3 (some 5) ?_
 try simp only [Act.put,q0,q1,q2]
 refine rT 4 (some 6) ?_
 try simp only [Act.put,q0,q1,q2]
 refine rT 5 (some 7) ?_
 try simp only [Act.put,q0,q1,q2]
 refine rT 6 (some 8) ?_
 try simp only [Act.put,q0,q1,q2]
 refine rT 7 (some 9) ?_
 try simp only [Act.put,q0,q1,q2]
 refine rT 8 (some 10) ?_
 try simp only [Act.put,q0,q1,q2]
 refine rR1 9 (some 11) (fun K hK=>?_)
 go_simp
 refine hK.out _ _ hHeld (fun hHeld=>?_)
 clear hK K
 try simp only [Act.put,q0,q1,q2]
 refine rT 10 (some 12) ?_
 try simp only [Act.put,q0,q1,q2]
 refine rT 11 (some 13) ?_
 try simp only [Act.put,q0,q1,q2]
 refine rR1 12 none (fun K hK=>?_)
 go_simp
 refine hK.out _ _ ?_ (fun _=>?_)
 ·exact⟨by rw [cell_other HXN.out];exact hHeld.1,by rw [cell_other HAN.out];exact hHeld.2.1,by rw [cell_other HGN.out];exact hHeld.2.2⟩
 clear hK K
 try simp only [Act.put,q0,q1,q2]
 refine wpAnyH_done (by kernel_rfl) ?_ _
 go_wp2_with fail
 go_end0
 exact⟨rfl,_,_,_,H1.out,HGR.out.trans H2.out⟩
set_option maxRecDepth 100000 in
set_option maxHeartbeats 16000000 in
theorem jump_any {B0 gb:Nat} {cs:List Tr.C} {cl:Tr.C} {pv fv mv:Value} {g:Co.G} {cv nv vv:Value} {w:World} (h:GS B0 gb cs cl pv fv mv g cv nv vv w) (hB:B0≤w.heap.size) {n:Nat} (hbd:Co.Bd n g∧n≤900000) (op p:Int) (hp:0≤p∧p≤1000000):
 Calls Tryz.prog 137 #[.pointer (some ⟨gb,0,none⟩),.int .i64 op,.int .i64 p] w (JQ B0 gb cs cl pv fv mv (Co.emit g op 0 0 p 0) g.code.length cv nv vv w):=by
 have HBD:=Lib.hid hbd
 have HP:=Lib.hid hp
 have C0:=Lib.hid (Mg.start (os:= []) h hB (fun _ h=>by cases h))
 clear h hB hbd hp
 obtain⟨pc,cc,hcv⟩:=own_form C0.out.q.code
 have HCV:=Lib.hid hcv
 clear hcv
 obtain⟨N,hN⟩:∃q,g.code.length=q:=⟨_,rfl⟩
 rw [hN] at HCV
 have HN:=Lib.hid hN
 clear hN
 obtain⟨X,w1,HX1,HW1,hx1,C1⟩:=C0.out.boxE #[.pointer (some ⟨gb,0,none⟩)] 101
 go_enter Tryz.func137,Tryz.ntmps137
 go_upto_region 1 with fail
 rw [←HX1.out,←HW1.out]
 clear HX1 HW1 C0
 have gl:=lt_of_block C1.out.q.blk
 have g5:=gcell C1.out.q (j:=5) rfl
 have gf5:=gfree C1.out.q 5
 have q0:=cells1 (C1.out.b 0 rfl)
 rw [HCV.out] at g5
 obtain⟨A,w2,HX,HW,hx2,C2⟩:=C1.out.boxE #[.int .i64 N] 3
 go_upto_region 2 with fail
 rw [←HX.out,←HW.out]
 clear HX HW C1
 clear gl g5 gf5 q0
 have q1:=cells1 (C2.out.b 1 rfl)
 go_wp2_with fail
 refine(emit_any C2.out.q (Nat.le_trans C2.out.hB C2.out.le) HBD.out op 0 0 p 0 HP.out ⟨by decide,by decide⟩).mono ?_
 rintro e w9 hp9
 obtain⟨rfl,c9,n9,v9,C9⟩:=Mg.done C2.out hp9
 clear hp9 C2 q1
 go_wp2_with fail
 go_ret
 rw [HN.out]
 exact⟨X,A,c9,n9,v9,rfl,C9.out.q,C9.out.gr,C9.out.b 1 rfl,C9.out.b 0 rfl,(C9.out.lt 1 rfl).1,(C9.out.lt 0 rfl).1,(C9.out.lts (q:=X) (by simp)).2.2,(C9.out.lts (q:=A) (by simp)).2.2,fun e=>by have h9:=C9.out.nd;simp [e] at h9⟩
set_option maxRecDepth 100000 in
set_option maxHeartbeats 16000000 in
theorem eachG_any {I:Nat→World→Prop} (l:List Tr.E) {v:Value} {w:World} {PP:Nat} (hl:l.length≤1000000) (h0:I 0 w) (hv:∃p c,v= .slice p l.length c)
 (hc:∀j x W,l[j]? =some x→I j W→∃f:Nat→Bool,SlE (hide f W) v l∧∀a W',BdE x→Below W.heap.size W W'→SlE (hide f W) a x.args→Calls Tryz.prog 132 #[.pointer (some ⟨PP,0,none⟩),exprV x a] W' (fun e W''=>e= .returned (.tuple #[])∧I (j+1) W'')):
 Calls Tryz.prog 130 #[v,.func (.func 132) #[.pointer (some ⟨PP,0,none⟩)] #[]] w (fun e w'=>e= .returned (.tuple #[])∧I l.length w'):=by
 obtain⟨p,c,rfl⟩:=hv
 obtain⟨N,hN⟩:∃q,l.length=q:=⟨_,rfl⟩
 rw [hN] at hc hl ⊢
 have HN:=Lib.hid hN
 have HC:=Lib.hid hc
 have H0:=Lib.hid h0
 clear hN hc h0
 go_enter Tryz.func130,Tryz.ntmps130
 go_wp2_with fail
 go_loopg [8] N (fun gg s8 wr=>∃j:Nat,s8= .int .i64 j∧j≤N∧gg=N -j∧Hid (I j wr))
 case atStart=>exact ⟨0,rfl,Nat.zero_le _,rfl,H0⟩
 case round=>
  clear H0
  obtain⟨j,rfl,hj,rfl,HI⟩:=hrel
  by_cases hlt:j<N
  ·obtain⟨x,hx⟩:∃x,l[j]? =some x:=⟨_,List.getElem?_eq_getElem (by rw [HN.out];exact hlt)⟩
   obtain⟨f,hs,hcall⟩:=HC.out j x wr hx HI.out
   obtain⟨b,oo,aa,rfl,hblt,⟨x0,x1,x2,x3,x4,x5⟩,hbdx,hsl⟩:=hs.get hx
   replace x0:=(hide_cell x0).2
   replace x1:=(hide_cell x1).2
   replace x2:=(hide_cell x2).2
   replace x3:=(hide_cell x3).2
   replace x4:=(hide_cell x4).2
   replace x5:=(hide_cell x5).2
   obtain⟨pa,ca,rfl,_⟩:=hsl.form
   obtain⟨AX,hAX⟩:∃N,x.args.length=N:=⟨_,rfl⟩
   rw [hAX] at x5
   have b3j:(j:Int)<(N:Int):=by omega
   have b0j:(0:Int)≤(j:Int):=by omega
   obtain⟨w4,HW4⟩:∃q,Hid (q=wr.alloc (.cells #[.int .i64 x.kind,.int .i64 x.op,.int .i64 x.int,.string x.name,.bool x.at_,.slice pa AX ca] 37)):=⟨_,Lib.hid rfl⟩
   have hb4:Below wr.heap.size wr w4:=by rw [HW4.out];exact below_box _ _
   have KC:=Lib.hid (hcall (.slice pa AX ca) w4 hbdx hb4 (by rw [hAX] at hsl;exact hsl))
   unfold exprV at KC
   clear hx hbdx hsl hAX hb4 HI hcall hs
   go_wp2_with fail
   rw [←HW4.out]
   clear HW4
   refine KC.out.mono ?_
   rintro e w5 ⟨rfl,hi5⟩
   have HI5:=Lib.hid hi5
   clear hi5 KC x0 x1 x2 x3 x4 x5
   go_wp2_with fail
   go_roundg (N -(j+1))
   case measure=>omega
   case rel=>exact ⟨j+1,by go_num,by omega,rfl,HI5⟩
  ·obtain rfl:j=N:=by omega
   go_wp2_with fail
   go_end0
   exact⟨rfl,HI.out⟩
set_option maxRecDepth 100000 in
set_option maxHeartbeats 16000000 in
theorem eachS_any {I:Nat→World→Prop} (l:List Tr.E) {v:Value} {w:World} {PP:Nat} (hl:l.length≤1000000) (h0:I 0 w) (hv:∃p c,v= .slice p l.length c)
 (hc:∀j x W,l[j]? =some x→I j W→∃f:Nat→Bool,SlE (hide f W) v l∧∀a W',BdE x→Below W.heap.size W W'→SlE (hide f W) a x.args→Calls Tryz.prog 131 #[exprV x a,.pointer (some ⟨PP,0,none⟩)] W' (fun e W''=>e= .returned (.tuple #[])∧I (j+1) W'')):
 Calls Tryz.prog 130 #[v,.func (.func 131) #[] #[.pointer (some ⟨PP,0,none⟩)]] w (fun e w'=>e= .returned (.tuple #[])∧I l.length w'):=by
 obtain⟨p,c,rfl⟩:=hv
 obtain⟨N,hN⟩:∃q,l.length=q:=⟨_,rfl⟩
 rw [hN] at hc hl ⊢
 have HN:=Lib.hid hN
 have HC:=Lib.hid hc
 have H0:=Lib.hid h0
 clear hN hc h0
 go_enter Tryz.func130,Tryz.ntmps130
 go_wp2_with fail
 go_loopg [8] N (fun gg s8 wr=>∃j:Nat,s8= .int .i64 j∧j≤N∧gg=N -j∧Hid (I j wr))
 case atStart=>exact ⟨0,rfl,Nat.zero_le _,rfl,H0⟩
 case round=>
  clear H0
  obtain⟨j,rfl,hj,rfl,HI⟩:=hrel
  by_cases hlt:j<N
  ·obtain⟨x,hx⟩:∃x,l[j]? =some x:=⟨_,List.getElem?_eq_getElem (by rw [HN.out];exact hlt)⟩
   obtain⟨f,hs,hcall⟩:=HC.out j x wr hx HI.out
   obtain⟨b,oo,aa,rfl,hblt,⟨x0,x1,x2,x3,x4,x5⟩,hbdx,hsl⟩:=hs.get hx
   replace x0:=(hide_cell x0).2
   replace x1:=(hide_cell x1).2
   replace x2:=(hide_cell x2).2
   replace x3:=(hide_cell x3).2
   replace x4:=(hide_cell x4).2
   replace x5:=(hide_cell x5).2
   obtain⟨pa,ca,rfl,_⟩:=hsl.form
   obtain⟨AX,hAX⟩:∃N,x.args.length=N:=⟨_,rfl⟩
   rw [hAX] at x5
   have b3j:(j:Int)<(N:Int):=by omega
   have b0j:(0:Int)≤(j:Int):=by omega
   obtain⟨w4,HW4⟩:∃q,Hid (q=wr.alloc (.cells #[.int .i64 x.kind,.int .i64 x.op,.int .i64 x.int,.string x.name,.bool x.at_,.slice pa AX ca] 37)):=⟨_,Lib.hid rfl⟩
   have hb4:Below wr.heap.size wr w4:=by rw [HW4.out];exact below_box _ _
   have KC:=Lib.hid (hcall (.slice pa AX ca) w4 hbdx hb4 (by rw [hAX] at hsl;exact hsl))
   unfold exprV at KC
   clear hx hbdx hsl hAX hb4 HI hcall hs
   go_wp2_with fail
   rw [←HW4.out]
   clear HW4
   refine KC.out.mono ?_
   rintro e w5 ⟨rfl,hi5⟩
   have HI5:=Lib.hid hi5
   clear hi5 KC x0 x1 x2 x3 x4 x5
   go_wp2_with fail
   go_roundg (N -(j+1))
   case measure=>omega
   case rel=>exact ⟨j+1,by go_num,by omega,rfl,HI5⟩
  ·obtain rfl:j=N:=by omega
   go_wp2_with fail
   go_end0
   exact⟨rfl,HI.out⟩
end Cw
end Go.Proofs.YtcnmfcgmnkncaaaGreatDoor
