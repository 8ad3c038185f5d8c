/-
  Several texts in one: TrFew, CoReg, TrFew2, CoLawBase, CoObs, CoSound.
-/
import Derived.Below
import Derived.Deep.Slices
import Derived.Deep.Fields
import Derived.ChangeSame
import Derived.WalkKit
import Derived.WalkLawsBesides
import Derived.WalkSpells
import Derived.LoopTactic
import Derived.Lib.Hide
import Derived.Deep.RegionHeld3
import Derived.Lib.Strings
import Derived.Test.YtcnmfcgmnkncaaaGreatDoorJ26
import Derived.Laws.AppendOwn
import Derived.Laws.Rows
import Derived.OneCell
import Derived.Laws.AppendOwnNone
import Derived.Deep.QuietTactic
import Derived.BigQuiet
import Derived.IntWalk
import Derived.Laws.StructEq
import Derived.Shelf.Strings.OnBuilder
import Derived.Shelf.Strings.Trim
import Derived.Shelf.Small.Strs
import Derived.Shelf.Strings.Prefix
import Derived.Shelf.Strings.Search3
import Derived.Shelf.Strconv.ParseIntPublic10
import Derived.Shelf.Slices.Turned
import Derived.Shelf.Slices.Clone
import Derived.Shelf.Strings.SlTrimAscii
import Derived.Shelf.Spec.SearchS
import Derived.Lib.ParseIntB
import Derived.Maps.Own
import Derived.Maps.Views
import Derived.StillTailTactics
import Derived.OwnWalk
import Derived.Deep.LoopGhost
import Derived.Deep.DeepCutAuto
import Derived.RangeFuncNested
import Derived.RangeFuncBound
import Derived.RangeFuncCalls
import Derived.RangeFuncLeaves
import Derived.RangeFuncBox
import Derived.Shelf.Abstract
import Derived.Shelf.RegionOpen
import Derived.OwnWalkIn
import Derived.TacticsInMore
import Derived.LoopNIn
import Derived.LoopIn
import Derived.Laws.Bits64b
import Derived.Maps.OwnSet
import Derived.Deep.RegionHeld
import Derived.Laws.ResultCell
import Derived.StringKeys
import Derived.Ground.SlmcProg
import Derived.Shelf.SlMaps.Clone
import Derived.Deep.CutBlock
import Derived.Laws.EntriesVeiled
import Derived.Lib.SliceRun
namespace Go.Proofs.YtcnmfcgmnkncaaaGreatDoor
open Go.RowKit
namespace Tr
theorem zU1 {s:S} {n:Int} (h:40<s.name.size):leftS s n= -1:=by
 cases s with
 |mk k nm x b l=>rw [leftS];exact if_pos h
theorem zM {s:S} {n m2 m3 m4:Int} (h:¬40<s.name.size) (h2:leftEs s.exprs (n -1)=m2) (h3:(if 0≤m2 then leftSs s.body m2 else m2)=m3) (h4:(if 0≤m3 then leftSs s.els m3 else m3)=m4):leftS s n=m4:=by
 cases s with
 |mk k nm x b l=>
  have h':¬40<nm.size:=h
  rw [leftS,if_neg h']
  subst h2
  subst h3
  exact h4
theorem zUG {α:Type} {l:List α} {j:Nat} {x:α} (h:l[j]? =some x):l.drop j=x::l.drop (j+1):=by
 obtain⟨hlt,rfl⟩:=List.getElem?_eq_some_iff.1 h
 exact List.drop_eq_getElem_cons hlt
end Tr
set_option maxRecDepth 100000 in
set_option maxHeartbeats 1000000 in
theorem zUP (v:Value) (l:List ByteArray) (n:Int) (w:World) (h:SlStr w v l) (h0: -1≤n) (hn:n≤1000000):
 Calls Tryz.prog 31 #[v,.int .i64 n] w fun r w'=>r= .returned (.int .i64 (Tr.shortL l n))∧w=w':=by
 obtain⟨p,c,rfl,hl,_,hx⟩:=h
 have HX:=zh hx
 unfold maxLen at hl
 obtain⟨N,hN⟩:∃N,l.length=N:=⟨_,rfl⟩
 rw [hN] at hl ⊢
 have HN:=zh hN
 clear hx hN
 go_enter Tryz.func31,Tryz.ntmps31
 go_wp2
 go_loop [5] (fun s5=>∃j:Nat,s5= .int .i64 j∧j≤N∧∀t s,t<j→l[t]? =some s→s.size≤40) (fun s5=>N -(intOf s5).toNat)
 case atStart=>exact ⟨0,rfl,Nat.zero_le _,fun t s ht=>by omega⟩
 case round=>
  obtain⟨j,rfl,hj,hall⟩:=hrel
  have HA:=zh hall
  clear hall
  by_cases hlt:j<N
  ·obtain⟨x,hx⟩:∃x,l[j]? =some x:=⟨_,List.getElem?_eq_getElem (by rw [HN.out];exact hlt)⟩
   obtain⟨hsz,b,o,rfl,hb,hc⟩:=HX.out j x hx
   have HXJ:=zh hx
   unfold maxLen at hsz
   clear hx
   by_cases h40:40<x.size
   ·go_wp2
    go_ret
    refine⟨?_,rfl⟩
    have:(l.any fun s=>decide (40<s.size))=true:=List.any_eq_true.2 ⟨x,List.mem_of_getElem? HXJ.out,decide_eq_true h40⟩
    rw [Tr.shortL,if_pos this];rfl
   ·go_wp2
    go_round
    case rel=>
     refine⟨j+1,by go_num,by omega,fun t s ht hts=>?_⟩
     by_cases e:t=j
     ·subst e;rw [HXJ.out] at hts;cases hts;omega
     ·exact HA.out t s (by omega) hts
    case measure=>simp [intOf];omega
  ·obtain rfl:j=N:=by omega
   go_wp2
   go_ret
   refine⟨?_,rfl⟩
   have:(l.any fun s=>decide (40<s.size))=false:=by
    rw [Bool.eq_false_iff]
    intro h
    obtain⟨s,hs,h2⟩:=List.any_eq_true.1 h
    obtain⟨t,ht,e⟩:=List.mem_iff_getElem.1 hs
    have:=HA.out t s (by rw [←HN.out];exact ht) (by rw [List.getElem?_eq_getElem ht,e])
    simp at h2
    omega
   rw [Tr.shortL,if_neg (by rw [this];simp),HN.out];rfl
set_option maxRecDepth 100000 in
set_option maxHeartbeats 4000000 in
theorem zUL:∀(d:Nat) (l:List Tr.S) (v:Value) (n:Int) (w:World),Tr.S.deep.deeps l≤d→SlS w v l→0≤n→n≤1000000→
 Calls Tryz.prog 32 #[v,.int .i64 n] w fun r w'=>r= .returned (.int .i64 (Tr.leftSs l n))∧Below w.heap.size w w':=by
 intro d
 induction d using Nat.strongRecOn with
 |ind d ih=>
  intro l v n w hd hS h0 hn
  obtain⟨p,c,rfl,_⟩:=hS.form
  have hll:=hS.len
  unfold maxLen at hll
  obtain⟨N,hN⟩:∃N,l.length=N:=⟨_,rfl⟩
  rw [hN] at hS hll ⊢
  have HS:=zh hS
  have HN:=zh hN
  have HD:=zh hd
  have HIH:=zh ih
  clear hS hN hd ih
  go_enter Tryz.func32,Tryz.ntmps32
  go_wp2
  go_loopw [1,5] (fun s1 s5 wr=>∃(j:Nat) (m:Int),s5= .int .i64 j∧j≤N∧s1= .int .i64 m∧ -1≤m∧m≤1000000∧Tr.leftSs (l.drop j) m=Tr.leftSs l n∧Below w.heap.size w wr) (fun _ s5 _=>N -(intOf s5).toNat)
  case atStart=>exact ⟨0,n,rfl,Nat.zero_le _,rfl,by omega,by omega,rfl,Below.refl _ _⟩
  case round=>
   obtain⟨j,m,rfl,hj,rfl,hm0,hm1,heq,hbr⟩:=hrel
   obtain⟨wo,rfl⟩:∃wo:World,wo=wr:=⟨_,rfl⟩
   have HEQ:=zh heq
   have HBR:=zh hbr
   by_cases hlt:j<N
   ·by_cases hm:0≤m
    ·obtain⟨x,hx⟩:∃x,l[j]? =some x:=⟨_,List.getElem?_eq_getElem (by rw [HN.out];exact hlt)⟩
     obtain⟨b,oo,vx,vy,vz,rfl,hblt,hc,hbd,hsx,hsy,hsz⟩:=(HS.out.keep hbr).get hx
     obtain⟨x0,x1,x2,x3,x4⟩:=hc
     have hnm:=hbd.name
     unfold maxLen at hnm
     rw [Tr.zUG hx,Tr.zLI hm] at heq
     have HEQ2:=zh heq
     have HX:=zh hx
     clear heq hbr hx HEQ
     by_cases h40:40<x.name.size
     ·have hres:Tr.leftSs l n= -1:=by rw [←HEQ2.out,Tr.zU1 h40,Tr.zDB (by omega)]
      have HR:=zh hres
      clear hres
      go_wp2
      go_ret
      exact⟨by rw [HR.out];rfl,HBR.out⟩
     ·obtain⟨px,cx,rfl,_⟩:=hsx.form
      have hxl:=hsx.len
      unfold maxLen at hxl
      obtain⟨X,hX⟩:∃X,x.exprs.length=X:=⟨_,rfl⟩
      rw [hX] at hsx hxl x2
      have HSX:=zh hsx
      have HSY:=zh hsy
      have HSZ:=zh hsz
      have HX0:=zh hX
      clear hsx hsy hsz hX
      go_wp2
      go_loopw [1,6] (fun s1 s6 wr=>∃(k:Nat) (m2:Int),s6= .int .i64 k∧k≤X∧s1= .int .i64 m2∧ -1≤m2∧m2≤1000000∧Tr.leftEs (x.exprs.drop k) m2=Tr.leftEs x.exprs (m -1)∧Below wo.heap.size wo wr) (fun _ s6 _=>X -(intOf s6).toNat)
      case atStart=>exact ⟨0,m -1,rfl,Nat.zero_le _,rfl,by omega,by omega,rfl,Below.refl _ _⟩
      case round=>
       obtain⟨k,m2,rfl,hk,rfl,hm20,hm21,heq,hbr⟩:=hrel
       have HE:=zh heq
       have HBW:=zh hbr
       have e2:=zA hbr x2
       by_cases hgo:k<X∧0≤m2
       ·obtain⟨hk1,hk2⟩:=hgo
        obtain⟨y,hy⟩:∃y,x.exprs[k]? =some y:=⟨_,List.getElem?_eq_getElem (by rw [HX0.out];exact hk1)⟩
        obtain⟨b2,o2,aa,rfl,_,hc2,hbd2,hsl2⟩:=(HSX.out.keep hbr).get hy
        obtain⟨y0,y1,y2,y3,y4,y5⟩:=hc2
        have hcall:=zJY _ y aa m2 wr (Nat.le_refl _) hbd2 hsl2 hk2 hm21
        unfold exprV at hcall
        have hb2:=Tr.zMK y m2 hk2
        rw [Tr.zUG hy,Tr.zGO hk2] at heq
        have HE2:=zh heq
        have HC:=zh hcall
        obtain⟨r,hr⟩:∃r,Tr.leftE y m2=r:=⟨_,rfl⟩
        rw [hr] at hb2 HE2 HC
        clear heq hbr hcall hy hsl2 hbd2 hr HE x0 x1 x2 x3 x4
        go_wp2_with fail
        refine HC.out.mono ?_
        rintro e w2 ⟨rfl,hb2'⟩
        go_wp2_with fail
        go_roundw
        case rel=>exact ⟨k+1,r,by go_num,by omega,rfl,by omega,by omega,HE2.out,zC HBW.out hb2'⟩
        case measure=>simp [intOf];omega
       ·have hm2e:Tr.leftEs x.exprs (m -1)=m2:=by
         by_cases hk1:k<X
         ·rw [←heq,Tr.zEU (by omega)]
         ·rw [←heq,List.drop_eq_nil_of_le (by rw [HX0.out];omega),Tr.leftEs]
        have HM2:=zh hm2e
        have e3:=zA hbr x3
        have e4:=zA hbr x4
        have hgo':X≤k∨(k<X∧m2<0):=by omega
        have hdd:=Tr.S.deep_in HD.out HX.out
        have HDD:=zh hdd
        clear heq hbr hm2e hgo x0 x1 x2 x3 x4 hdd
        rcases hgo' with hg|⟨hg1,hg2⟩
        ·by_cases c2:0≤m2
         ·have hcall:=HIH.out (d -1) (by have:=HDD.out.1;omega) x.body vy m2 wr HDD.out.2.1 (HSY.out.keep HBW.out) c2 hm21
          have hb3:=Tr.zB5 x.body m2 (by omega)
          have HC:=zh hcall
          obtain⟨m3,hr⟩:∃r,Tr.leftSs x.body m2=r:=⟨_,rfl⟩
          rw [hr] at hb3 HC
          have HM3:=zh (show(if 0≤m2 then Tr.leftSs x.body m2 else m2)=m3 by rw [if_pos c2,hr])
          clear hr hcall
          go_wp2_with fail
          refine HC.out.mono ?_
          rintro e w3 ⟨rfl,hb3'⟩
          have HB3:=zh (zC HBW.out hb3')
          have f4:=zA hb3' e4
          clear hb3'
          by_cases c3:0≤m3
          ·have hcall:=HIH.out (d -1) (by have:=HDD.out.1;omega) x.els vz m3 w3 HDD.out.2.2 (HSZ.out.keep HB3.out) c3 (by omega)
           have hb4:=Tr.zB5 x.els m3 (by omega)
           have HC4:=zh hcall
           obtain⟨m4,hr⟩:∃r,Tr.leftSs x.els m3=r:=⟨_,rfl⟩
           rw [hr] at hb4 HC4
           have HM4:=zh (show(if 0≤m3 then Tr.leftSs x.els m3 else m3)=m4 by rw [if_pos c3,hr])
           clear hr hcall
           go_wp2_with fail
           refine HC4.out.mono ?_
           rintro e w4 ⟨rfl,hb4'⟩
           go_wp2_with fail
           go_roundw
           case rel=>exact ⟨j+1,m4,by go_num,by omega,rfl,by omega,by omega,by rw [←HEQ2.out,Tr.zM h40 HM2.out HM3.out HM4.out],HBR.out.trans ((zC HB3.out hb4').mono HBR.out.size)⟩
           case measure=>simp [intOf];omega
          ·have HM4:=zh (show(if 0≤m3 then Tr.leftSs x.els m3 else m3)=m3 by rw [if_neg c3])
           go_wp2_with fail
           go_roundw
           case rel=>exact ⟨j+1,m3,by go_num,by omega,rfl,by omega,by omega,by rw [←HEQ2.out,Tr.zM h40 HM2.out HM3.out HM4.out],HBR.out.trans (HB3.out.mono HBR.out.size)⟩
           case measure=>simp [intOf];omega
         ·have HM3:=zh (show(if 0≤m2 then Tr.leftSs x.body m2 else m2)=m2 by rw [if_neg c2])
          have HM4:=zh (show(if 0≤m2 then Tr.leftSs x.els m2 else m2)=m2 by rw [if_neg c2])
          go_wp2_with fail
          go_roundw
          case rel=>exact ⟨j+1,m2,by go_num,by omega,rfl,by omega,by omega,by rw [←HEQ2.out,Tr.zM h40 HM2.out HM3.out HM4.out],HBR.out.trans (HBW.out.mono HBR.out.size)⟩
          case measure=>simp [intOf];omega
        ·have HM3:=zh (show(if 0≤m2 then Tr.leftSs x.body m2 else m2)=m2 by rw [if_neg (by omega)])
         have HM4:=zh (show(if 0≤m2 then Tr.leftSs x.els m2 else m2)=m2 by rw [if_neg (by omega)])
         go_wp2_with fail
         go_roundw
         case rel=>exact ⟨j+1,m2,by go_num,by omega,rfl,by omega,by omega,by rw [←HEQ2.out,Tr.zM h40 HM2.out HM3.out HM4.out],HBR.out.trans (HBW.out.mono HBR.out.size)⟩
         case measure=>simp [intOf];omega
    ·have hres:Tr.leftSs l n=m:=by rw [←heq,Tr.zDB (by omega)]
     have HR:=zh hres
     clear heq hbr hres
     go_wp2
     go_ret
     exact⟨by rw [HR.out];rfl,HBR.out⟩
   ·have hres:Tr.leftSs l n=m:=by rw [←heq,List.drop_eq_nil_of_le (by rw [HN.out];omega),Tr.leftSs]
    have HR:=zh hres
    clear heq hbr hres
    go_wp2
    go_ret
    exact⟨by rw [HR.out];rfl,HBR.out⟩
end Go.Proofs.YtcnmfcgmnkncaaaGreatDoor
namespace Go.Proofs.YtcnmfcgmnkncaaaGreatDoor
namespace Cw
section
variable {P:Program} {ops:Array Oper} {Q:Exit→Act→World→Prop} {md:Region.Mode} {S:World→Prop} {fuel:Nat} {listed:Array Bool} {a:Act} {w:World} {x1:Op} {x2:TypeId} {x3:String} {x4:Array Edge} {x5:Option (Nat × Bool)} {y1:Op} {y2:TypeId} {y3:String} {y4:Array Edge} {y5:Option (Nat × Bool)}
theorem rK (i:Nat) (d:Option Nat) (h:wpAnyH P md ops Q S fuel (listed.setIfInBounds i true) (a.put d undef) w)
 (hi:ops[i]? =some ⟨d,x1,x2,x3,x4,x5⟩:=by rfl) (hw:Region.wanted ⟨d,x1,x2,x3,x4,x5⟩ (yielded ops a.tmps)=false:=by rfl)
 (hs:Region.noSelect ops=true:=by kernel_rfl) (hf:Region.free md ops listed i=true:=by kernel_rfl) (hr:(Region.ready md ops listed).contains i=true:=by kernel_rfl)
 (hQ:∀c a w,Q (.panic c) (a.put d undef) w→Q (.panic c) a w:=by exact fun _ _ _ h=>h) (hS:S w:=by first|trivial|assumption):wpAnyH P md ops Q S (fuel+1) listed a w:=
 wpAnyH_take (v:=undef) hi hs hf hr hQ (Or.inr ⟨hw,rfl⟩) hS h
end
end Cw
end Go.Proofs.YtcnmfcgmnkncaaaGreatDoor
namespace Go.Proofs.YtcnmfcgmnkncaaaGreatDoor
open Go.RowKit
namespace Tr
theorem zUQ (l:List ByteArray) (n:Int) (hl:l.length≤9223372036854775807) (h0: -1≤n) (h1:n≤1000000): -9223372036854775808≤shortL l n∧shortL l n≤n:=by
 unfold shortL
 split<;>omega
theorem zUY {m:M} {n a b:Int} (h:¬40<m.name.size) (h1:shortL m.params (n -1)=a) (h2:(if 0≤a then leftSs m.body a else a)=b):leftM m n=b:=by
 unfold leftM
 rw [if_neg h]
 subst h1
 exact h2
theorem zU2 {m:M} {n:Int} (h:40<m.name.size):leftM m n= -1:=by unfold leftM;rw [if_pos h]
theorem zU3 {m:C} {n:Int} (h:40<m.name.size):leftC m n= -1:=by unfold leftC;rw [if_pos h]
theorem zUZ {m:C} {n a b:Int} (h:¬40<m.name.size) (h1:shortL m.fields (n -1)=a) (h2:leftMs m.methods a=b):leftC m n=b:=by
 unfold leftC
 rw [if_neg h,h1,h2]
end Tr
set_option maxRecDepth 100000 in
set_option maxHeartbeats 8000000 in
theorem zVB (v:Value) (cs:List Tr.C) (n:Int) (w:World) (h:SlC w v cs) (h0:0≤n) (hn:n≤1000000):
 Calls Tryz.prog 11 #[.agg #[v],.int .i64 n] w fun r w'=>r= .returned (.bool (Tr.fewP cs n))∧Below w.heap.size w w':=by
 obtain⟨p,c,rfl⟩:=h.form
 have hll:=h.len
 unfold maxLen at hll
 obtain⟨N,hN⟩:∃N,cs.length=N:=⟨_,rfl⟩
 rw [hN] at h hll ⊢
 have hbx:=zD w (.cells #[.slice p N c] 24)
 have HS:=zh (h.keep hbx)
 have HN:=zh hN
 have HB:=zh hbx
 have b0:=zP w #[.slice p N c] 24 0 _ rfl
 obtain⟨w1,hw1⟩:∃w1,w1=w.alloc (.cells #[.slice p N c] 24):=⟨_,rfl⟩
 rw [←hw1] at HS HB b0
 clear h hN hbx
 have hfin:Hid (∀m:Int,Tr.leftCs cs n=m→Tr.fewP cs n=decide (0≤m)):=fun m hm=>by unfold Tr.fewP;rw [hm]
 go_enter Tryz.func11,Tryz.ntmps11
 go_wp2
 rw [←hw1]
 clear hw1
 go_loopw [1,5] (fun s1 s5 wr=>∃(j:Nat) (m:Int),s5= .int .i64 j∧j≤N∧s1= .int .i64 m∧ -9223372036854775808≤m∧m≤1000000∧Tr.leftCs (cs.drop j) m=Tr.leftCs cs n∧Below w1.heap.size w1 wr) (fun _ s5 _=>N -(intOf s5).toNat)
 case atStart=>exact ⟨0,n,rfl,Nat.zero_le _,rfl,by omega,by omega,rfl,Below.refl _ _⟩
 case round=>
  obtain⟨j,m,rfl,hj,rfl,hm0,hm1,heq,hbr⟩:=hrel
  obtain⟨wo,rfl⟩:∃wo:World,wo=wr:=⟨_,rfl⟩
  have HEQ:=zh heq
  have HBR:=zh hbr
  have c0:=zA hbr b0
  by_cases hlt:j<N
  ·by_cases hm:0≤m
   ·obtain⟨x,hx⟩:∃x,cs[j]? =some x:=⟨_,List.getElem?_eq_getElem (by rw [HN.out];exact hlt)⟩
    obtain⟨b,oo,vf,vm,rfl,hblt,hc,hnm,hsf,hsm⟩:=(HS.out.keep hbr).get hx
    obtain⟨x0,x1,x2,x3⟩:=hc
    rw [Tr.zUG hx,Tr.zLJ hm] at heq
    have HEQ2:=zh heq
    obtain⟨nm,act,fs,ms⟩:=x
    simp only [] at hnm hsf hsm x0 x1
    unfold maxLen at hnm
    obtain⟨pm,cm,rfl⟩:=hsm.form
    have hml:=hsm.len
    have hfl:fs.length≤maxLen:=by obtain⟨_,_,_,h1,_⟩:=hsf;exact h1
    unfold maxLen at hml hfl
    obtain⟨MN,hMN⟩:∃N,ms.length=N:=⟨_,rfl⟩
    rw [hMN] at hsm hml x3
    obtain⟨pf,cf,rfl⟩:=hsf.form
    have hsb:=Tr.zUQ fs (m -1) hfl (by omega) (by omega)
    obtain⟨FN,hFN⟩:∃N,fs.length=N:=⟨_,rfl⟩
    rw [hFN] at hsf x2 hfl
    have hbx:=zD wo (.cells #[.string nm,.bool act,.slice pf FN cf,.slice pm MN cm] 55)
    have HSF:=zh (hsf.keep hbx)
    have HSM:=zh (hsm.keep hbx)
    have HMN:=zh hMN
    have HBX:=zh hbx
    have e3:=zP wo #[.string nm,.bool act,.slice pf FN cf,.slice pm MN cm] 55 3 _ rfl
    obtain⟨W2,hW2⟩:∃W2,W2=wo.alloc (.cells #[.string nm,.bool act,.slice pf FN cf,.slice pm MN cm] 55):=⟨_,rfl⟩
    rw [←hW2] at HSF HSM HBX e3
    clear hx hbr hsf hsm hMN hFN hbx heq HEQ
    by_cases h40:40<nm.size
    ·have hf:=zh (hfin.out (-1) (by rw [←HEQ2.out,Tr.zU3 h40,Tr.zNT (by omega)]))
     go_wp2
     go_ret
     exact⟨by rw [hf.out];rfl,by first|exact (HB.out.trans (HBR.out.mono HB.out.size)).alloc (Nat.le_trans HB.out.size HBR.out.size) _|exact HB.out.trans ((zC HBR.out (zD _ _)).mono HB.out.size)⟩
    ·have HW2:=zh hW2
     clear hW2
     go_wp2_with fail
     rw [←HW2.out]
     obtain⟨r,hr⟩:∃r,Tr.shortL fs (m -1)=r:=⟨_,rfl⟩
     have hcall:=zUP _ fs (m -1) W2 HSF.out (by omega) (by omega)
     rw [hr] at hcall hsb
     have HR:=zh hr
     have HCL:=zh hcall
     clear hr hcall HW2
     refine HCL.out.mono ?_
     rintro e w3 ⟨rfl,rfl⟩
     have HBW:=zh (zC HBR.out HBX.out)
     go_wp2_with fail
     go_loopw [1,7] (fun s1 s7 wr=>∃(k:Nat) (m2:Int),s7= .int .i64 k∧k≤MN∧s1= .int .i64 m2∧ -9223372036854775808≤m2∧m2≤1000000∧Tr.leftMs (ms.drop k) m2=Tr.leftMs ms r∧Below W2.heap.size W2 wr) (fun _ s7 _=>MN -(intOf s7).toNat)
     case atStart=>exact ⟨0,r,rfl,Nat.zero_le _,rfl,by omega,by omega,rfl,Below.refl _ _⟩
     case round=>
      obtain⟨k,m2,rfl,hk,rfl,hm20,hm21,heq,hbr⟩:=hrel
      have HE:=zh heq
      have HBM:=zh hbr
      have k3:=zA hbr e3
      by_cases hgo:k<MN∧0≤m2
      ·obtain⟨hk1,hk2⟩:=hgo
       obtain⟨y,hy⟩:∃y,ms[k]? =some y:=⟨_,List.getElem?_eq_getElem (by rw [HMN.out];exact hk1)⟩
       obtain⟨b2,o2,vp,vb,rfl,hblt2,hc2,hnm2,hsp,hsb2⟩:=(HSM.out.keep hbr).get hy
       obtain⟨y0,y1,y2⟩:=hc2
       rw [Tr.zUG hy,Tr.zGN hk2] at heq
       have HE2:=zh heq
       obtain⟨mn,ps,bd⟩:=y
       simp only [] at hnm2 hsp hsb2 y0
       unfold maxLen at hnm2
       have hpl:ps.length≤maxLen:=by obtain⟨_,_,_,h1,_⟩:=hsp;exact h1
       unfold maxLen at hpl
       have hsb3:=Tr.zUQ ps (m2 -1) hpl (by omega) (by omega)
       have HSP:=zh hsp
       have HSB:=zh hsb2
       clear hy heq hsp hsb2 hpl hbr HE
       by_cases h40m:40<mn.size
       ·have hf:=zh (hfin.out (-1) (by rw [←HEQ2.out,Tr.zUZ h40 HR.out (show Tr.leftMs ms r= -1 by rw [←HE2.out,Tr.zU2 h40m,Tr.zNR (by omega)]),Tr.zNT (by omega)]))
        go_wp2
        go_ret
        exact⟨by rw [hf.out];rfl,HB.out.trans ((zC HBW.out HBM.out).mono HB.out.size)⟩
       ·obtain⟨r2,hr2⟩:∃r,Tr.shortL ps (m2 -1)=r:=⟨_,rfl⟩
        have hcall:=zUP _ ps (m2 -1) wr HSP.out (by omega) (by omega)
        rw [hr2] at hcall hsb3
        have HR2:=zh hr2
        have HCL2:=zh hcall
        clear hr2 hcall
        go_wp2_with fail
        refine HCL2.out.mono ?_
        rintro e w4 ⟨rfl,rfl⟩
        by_cases hr0:0≤r2
        ·have hcall:=zUL _ bd vb r2 wr (Nat.le_refl _) HSB.out hr0 (by omega)
         have hb5:=Tr.zB5 bd r2 (by omega)
         obtain⟨r3,hr3⟩:∃r,Tr.leftSs bd r2=r:=⟨_,rfl⟩
         rw [hr3] at hcall hb5
         have HCL3:=zh hcall
         have HM3:=zh (show(if 0≤r2 then Tr.leftSs bd r2 else r2)=r3 by rw [if_pos hr0,hr3])
         clear hr3 hcall
         go_wp2_with fail
         refine HCL3.out.mono ?_
         rintro e w5 ⟨rfl,hb5'⟩
         go_wp2_with fail
         go_roundw
         case rel=>exact ⟨k+1,r3,by go_num,by omega,rfl,by omega,by omega,by rw [←HE2.out,Tr.zUY h40m HR2.out HM3.out],zC HBM.out hb5'⟩
         case measure=>simp [intOf];omega
        ·have HM3:=zh (show(if 0≤r2 then Tr.leftSs bd r2 else r2)=r2 by rw [if_neg hr0])
         go_wp2_with fail
         go_roundw
         case rel=>exact ⟨k+1,r2,by go_num,by omega,rfl,by omega,by omega,by rw [←HE2.out,Tr.zUY h40m HR2.out HM3.out],HBM.out⟩
         case measure=>simp [intOf];omega
      ·have hm2e:Tr.leftMs ms r=m2:=by
        by_cases hk1:k<MN
        ·rw [←heq,Tr.zNR (by omega)]
        ·rw [←heq,List.drop_eq_nil_of_le (by rw [HMN.out];omega),Tr.leftMs]
       have HM2:=zh hm2e
       have hgo':MN≤k∨(k<MN∧m2<0):=by omega
       clear heq hbr hm2e hgo
       rcases hgo' with hg|⟨hg1,hg2⟩
       all_goals
        go_wp2_with fail
        go_roundw
        case rel=>exact ⟨j+1,m2,by go_num,by omega,rfl,by omega,by omega,by rw [←HEQ2.out,Tr.zUZ h40 HR.out HM2.out],HBW.out.trans (HBM.out.mono HBW.out.size)⟩
        case measure=>simp [intOf];omega
   ·have hf:=zh (hfin.out m (by rw [←heq,Tr.zNT (by omega)]))
    clear heq hbr
    go_wp2
    go_ret
    exact⟨by rw [hf.out,decide_eq_false (by omega)];rfl,HB.out.trans (HBR.out.mono HB.out.size)⟩
  ·have hf:=zh (hfin.out m (by rw [←heq,List.drop_eq_nil_of_le (by rw [HN.out];omega),Tr.leftCs]))
   clear heq hbr
   go_wp2
   go_ret
   exact⟨by rw [hf.out];rfl,HB.out.trans (HBR.out.mono HB.out.size)⟩
end Go.Proofs.YtcnmfcgmnkncaaaGreatDoor
namespace Go.Proofs.YtcnmfcgmnkncaaaGreatDoor
namespace Cw
open Go.RowKit Go.Maps Pw
def RC (a:Value) (l:List Tr.C):World→Prop:=fun W=>SlC W a l
theorem rc_mn {a:Value} {l:List Tr.C}:Mn (RC a l):=fun _ _ hi h=>SlC.inc h hi
theorem rcc_mn {a:Value} {l:List Co.Cc}:Mn (RCc a l):=fun _ _ hi h=>SlCc.inc h hi
abbrev A1 (b:Nat) (x0:Value) (U:World):Prop:=U.cell? ⟨b,0,none⟩=some (x0)
theorem mnA1 {b:Nat} {x0:Value}:Mn (A1 b x0):=fun _ _ hi h=>hi.2 _ _ _ h
theorem Mz.foldA1 {w W:World} {bs:List Bk} {os:List (World→Prop)} {X:Nat} {x0:Value} {t:TypeId} (h:Mz 0 0 w [] (fun _=>True) [] ((X,#[x0],t)::bs) os W):Mz 0 0 w [] (fun _=>True) [] bs (A1 X x0::os) W:=h.fold mnA1 (fun _ hU _=>zB hU (j:=0) rfl)
abbrev A2 (b:Nat) (x0 x1:Value) (U:World):Prop:=U.cell? ⟨b,0,none⟩=some (x0)∧U.cell? ⟨b,1,none⟩=some (x1)
abbrev A3 (b:Nat) (x0 x1 x2:Value) (U:World):Prop:=U.cell? ⟨b,0,none⟩=some (x0)∧U.cell? ⟨b,1,none⟩=some (x1)∧U.cell? ⟨b,2,none⟩=some (x2)
theorem mnA3 {b:Nat} {x0 x1 x2:Value}:Mn (A3 b x0 x1 x2):=fun _ _ hi h=>⟨hi.2 _ _ _ h.1,hi.2 _ _ _ h.2.1,hi.2 _ _ _ h.2.2⟩
theorem Mz.foldA3 {w W:World} {bs:List Bk} {os:List (World→Prop)} {X:Nat} {x0 x1 x2:Value} {t:TypeId} (h:Mz 0 0 w [] (fun _=>True) [] ((X,#[x0,x1,x2],t)::bs) os W):Mz 0 0 w [] (fun _=>True) [] bs (A3 X x0 x1 x2::os) W:=h.fold mnA3 (fun _ hU _=>⟨zB hU (j:=0) rfl,zB hU (j:=1) rfl,zB hU (j:=2) rfl⟩)
abbrev A5 (b:Nat) (x0 x1 x2 x3 x4:Value) (U:World):Prop:=U.cell? ⟨b,0,none⟩=some (x0)∧U.cell? ⟨b,1,none⟩=some (x1)∧U.cell? ⟨b,2,none⟩=some (x2)∧U.cell? ⟨b,3,none⟩=some (x3)∧U.cell? ⟨b,4,none⟩=some (x4)
theorem mnA5 {b:Nat} {x0 x1 x2 x3 x4:Value}:Mn (A5 b x0 x1 x2 x3 x4):=fun _ _ hi h=>⟨hi.2 _ _ _ h.1,hi.2 _ _ _ h.2.1,hi.2 _ _ _ h.2.2.1,hi.2 _ _ _ h.2.2.2.1,hi.2 _ _ _ h.2.2.2.2⟩
theorem Mz.foldA5 {w W:World} {bs:List Bk} {os:List (World→Prop)} {X:Nat} {x0 x1 x2 x3 x4:Value} {t:TypeId} (h:Mz 0 0 w [] (fun _=>True) [] ((X,#[x0,x1,x2,x3,x4],t)::bs) os W):Mz 0 0 w [] (fun _=>True) [] bs (A5 X x0 x1 x2 x3 x4::os) W:=h.fold mnA5 (fun _ hU _=>⟨zB hU (j:=0) rfl,zB hU (j:=1) rfl,zB hU (j:=2) rfl,zB hU (j:=3) rfl,zB hU (j:=4) rfl⟩)
abbrev B4 (b o:Nat) (x0 x1 x2 x3:Value) (U:World):Prop:=U.cell? ⟨b,o,none⟩=some (x0)∧U.cell? ⟨b,o+1,none⟩=some (x1)∧U.cell? ⟨b,o+2,none⟩=some (x2)∧U.cell? ⟨b,o+3,none⟩=some (x3)
theorem mnB4 {b o:Nat} {x0 x1 x2 x3:Value}:Mn (B4 b o x0 x1 x2 x3):=fun _ _ hi h=>⟨hi.2 _ _ _ h.1,hi.2 _ _ _ h.2.1,hi.2 _ _ _ h.2.2.1,hi.2 _ _ _ h.2.2.2⟩
abbrev B5 (b o:Nat) (x0 x1 x2 x3 x4:Value) (U:World):Prop:=U.cell? ⟨b,o,none⟩=some (x0)∧U.cell? ⟨b,o+1,none⟩=some (x1)∧U.cell? ⟨b,o+2,none⟩=some (x2)∧U.cell? ⟨b,o+3,none⟩=some (x3)∧U.cell? ⟨b,o+4,none⟩=some (x4)
theorem mnB5 {b o:Nat} {x0 x1 x2 x3 x4:Value}:Mn (B5 b o x0 x1 x2 x3 x4):=fun _ _ hi h=>⟨hi.2 _ _ _ h.1,hi.2 _ _ _ h.2.1,hi.2 _ _ _ h.2.2.1,hi.2 _ _ _ h.2.2.2.1,hi.2 _ _ _ h.2.2.2.2⟩
section
variable {w W:World} {os:List (World→Prop)}
theorem Mz.ot {r:World→Prop} (h:Mz 0 0 w [] (fun _=>True) [] [] (r::os) W):Mz 0 0 w [] (fun _=>True) [] [] os W:=h.few (fun _ hq=>List.mem_cons_of_mem _ hq)
theorem Mo.cc (h:Mo w os W) (i:Nat) {p:Option Addr} {N c:Nat} {l:List Co.Cc} (hi:os[i]? =some (RCc (.slice p N c) l)) {j:Nat} {x:Co.Cc} (hx:l[j]? =some x):
 ∃b o px nx cx py ny cy,p=some ⟨b,o,none⟩∧b<W.heap.size∧nx=x.fields.length∧ny=x.methods.length∧Hid (Mo w (B4 b (o+j*4) (.string x.name) (.bool x.actor) (.slice px nx cx) (.slice py ny cy)::RN (.slice px nx cx) x.fields::RMm (.slice py ny cy) x.methods::os) W):=by
 obtain⟨b,o,x1,y1,hp,hb,hc,_,h1,h2⟩:=SlCc.get (h.rd i hi) hx
 have h1':=h1
 have h2':=h2
 obtain⟨px,cx,e1,_⟩:=h1'
 obtain⟨py,cy,rfl,_⟩:=h2'.form
 subst e1
 exact⟨b,o,px,_,cx,py,_,cy,hp,hb,rfl,rfl,zh (Mo.add (Mo.add (Mo.add h zSY h2) rn_mn h1) mnB4 hc)⟩
theorem Mo.cm (h:Mo w os W) (i:Nat) {p:Option Addr} {N c:Nat} {l:List Co.Cm} (hi:os[i]? =some (RMm (.slice p N c) l)) {j:Nat} {x:Co.Cm} (hx:l[j]? =some x):
 ∃b o px nx cx py ny cy,p=some ⟨b,o,none⟩∧b<W.heap.size∧nx=x.code.length∧ny=x.names.length∧nx≤maxLen∧ny≤maxLen∧Hid (Mo w (B5 b (o+j*5) (.string x.name) (.int .i64 x.params) (.int .i64 x.locals) (.slice px nx cx) (.slice py ny cy)::RI (.slice px nx cx) x.code::RN (.slice py ny cy) x.names::os) W):=by
 obtain⟨b,o,x1,y1,hp,hb,hc,_,h1,h2⟩:=SlMm.get (h.rd i hi) hx
 have h1':=h1
 have h2':=h2
 obtain⟨px,cx,rfl,_⟩:=h1'.form
 obtain⟨py,cy,e2,hl2,_⟩:=h2'
 subst e2
 exact⟨b,o,px,_,cx,py,_,cy,hp,hb,rfl,rfl,h1.len,hl2,zh (Mo.add (Mo.add (Mo.add h rn_mn h2) ri_mn h1) mnB5 hc)⟩
end
abbrev A0 (b o:Nat) (x:Value) (U:World):Prop:=U.cell? ⟨b,o,none⟩=some x
theorem mnA0 {b o:Nat} {x:Value}:Mn (A0 b o x):=fun _ _ hi h=>hi.2 _ _ _ h
theorem cells8 {W:World} {b:Nat} {t:TypeId} {v0 v1 v2 v3 v4 v5 v6 v7:Value} (h:W.heap[b]? =some (.cells #[v0,v1,v2,v3,v4,v5,v6,v7] t (0,0))):b<W.heap.size∧W.cell? ⟨b,0,none⟩=some v0∧W.frozen? ⟨b,0,none⟩=false∧W.cell? ⟨b,1,none⟩=some v1∧W.frozen? ⟨b,1,none⟩=false∧W.cell? ⟨b,2,none⟩=some v2∧W.frozen? ⟨b,2,none⟩=false∧W.cell? ⟨b,3,none⟩=some v3∧W.frozen? ⟨b,3,none⟩=false∧W.cell? ⟨b,4,none⟩=some v4∧W.frozen? ⟨b,4,none⟩=false∧W.cell? ⟨b,5,none⟩=some v5∧W.frozen? ⟨b,5,none⟩=false∧W.cell? ⟨b,6,none⟩=some v6∧W.frozen? ⟨b,6,none⟩=false∧W.cell? ⟨b,7,none⟩=some v7∧W.frozen? ⟨b,7,none⟩=false:=⟨lt_of_block h,zB h (j:=0) rfl,zI h 0,zB h (j:=1) rfl,zI h 1,zB h (j:=2) rfl,zI h 2,zB h (j:=3) rfl,zI h 3,zB h (j:=4) rfl,zI h 4,zB h (j:=5) rfl,zI h 5,zB h (j:=6) rfl,zI h 6,zB h (j:=7) rfl,zI h 7⟩
theorem Mz.setRowE {B0 V:Nat} {w W:World} {o0 ow:List Nat} {Q:World→Prop} {bs:List Bk} {os:List (World→Prop)} (h:Mz B0 V w o0 Q ow bs os W) (i:Nat) {X:Nat} {cs:Array Value} {t:TypeId} (hi:bs[i]? =some (X,cs,t)) (cs':Array Value):
 ∃W',Hid (W'=W.setRow X cs')∧Hid (Mz B0 V w o0 Q ow (bs.set i (X,cs',t)) os W'):=
 ⟨_,zh rfl,zh (h.set i hi ⟨rfl,rfl,rfl,Nat.le_of_eq (setRow_size ..).symm,fun b _ hn=>setRow_other _ _ _ _ (fun e=>hn (by rw [e]))⟩ (setRow_heap _ _ _ _ _ _ (h.b i hi)))⟩
end Cw
end Go.Proofs.YtcnmfcgmnkncaaaGreatDoor
namespace Go.Proofs.YtcnmfcgmnkncaaaGreatDoor
namespace Co
open Tr
def pops (o b:Int):Int:=
 if o=4∨o=5∨o=6∨o=9∨o=12∨o=13∨o=14∨o=15∨o=17∨o=19∨o=20∨o=22 then 1
 else if o=8∨o=16∨o=23∨o=24 then 2
 else if o=10 then b else if o=11∨o=21 then b+1 else 0
def pushes (o:Int):Int:=if o=0∨o=1∨o=2∨o=3∨o=6∨o=7∨o=10∨o=11∨o=12∨o=13∨o=14∨o=15∨o=16∨o=17 then 1 else 0
theorem zPI (o:Int):0≤pushes o∧pushes o≤1:=by unfold pushes;split<;>omega
abbrev Jp (o:Int):Prop:=o=18∨o=19∨o=20
structure Fl (c:List Ins) (D:List Int) (p:Nat→Prop) (m:Int):Prop where
 len:D.length=c.length+1
 nn:∀(i:Nat) (d:Int),D[i]? =some d→0≤d∧d≤m
 pop:∀(i:Nat) (o a b d:Int),c[i]? =some (o,a,b)→D[i]? =some d→pops o b≤d
 fall:∀(i:Nat) (o a b d:Int),c[i]? =some (o,a,b)→D[i]? =some d→o≠18→o≠25→D[i+1]? =some (d -pops o b+pushes o)
 jump:∀(i:Nat) (o a b d:Int),c[i]? =some (o,a,b)→D[i]? =some d→Jp o→¬p i→0≤a∧D[a.toNat]? =some (d -pops o b+pushes o)
theorem zE2 {α:Type} {l:List α} {x y:α} {i:Nat} (h:(l++ [x])[i]? =some y):l[i]? =some y∨(i=l.length∧y=x):=by
 rcases Nat.lt_or_ge i l.length with hl|hl
 ·rw [List.getElem?_append_left hl] at h
  exact .inl h
 ·rw [List.getElem?_append_right hl] at h
  have h2:i -l.length=0:=by
   rcases Nat.eq_zero_or_pos (i -l.length) with e|e
   ·exact e
   ·rw [List.getElem?_eq_none (by rw [List.length_singleton];omega)] at h
    cases h
  rw [h2] at h
  exact .inr ⟨by omega,by injection h with h;exact h.symm⟩
theorem zGX {α:Type} {l:List α} {x:α} {i:Nat} (h:l[i]? =some x):i<l.length:=(List.getElem?_eq_some_iff.1 h).1
theorem zAI {α:Type} {l t:List α} {x:α} {i:Nat} (h:l[i]? =some x):(l++t)[i]? =some x:=by
 rw [List.getElem?_append_left (zGX h)]
 exact h
theorem zGY {α:Type} (l:List α) (x:α) {n:Nat} (h:n=l.length):(l++ [x])[n]? =some x:=by
 rw [List.getElem?_append_right (by omega),h,Nat.sub_self]
 rfl
section
variable {c:List Ins} {D:List Int} {p p':Nat→Prop} {m:Int}
theorem Fl.add (h:Fl c D p m) {d d' m' o a b:Int} (hd:D[c.length]? =some d) (hp:pops o b≤d) (h0:0≤d') (hm:d'≤m') (hmm:m≤m') (hf:o≠18→o≠25→d'=d -pops o b+pushes o) (hj:Jp o→¬p' c.length→0≤a∧(D++ [d'])[a.toNat]? =some (d -pops o b+pushes o)) (hpp:∀i,i<c.length→p i→p' i):Fl (c++ [(o,a,b)]) (D++ [d']) p' m':=by
 have hl:=h.len
 refine⟨by rw [List.length_append,List.length_append,hl];rfl,fun i e he=>?_,fun i o1 a1 b1 e hc he=>?_,fun i o1 a1 b1 e hc he h18 h25=>?_,fun i o1 a1 b1 e hc he hJ hnp=>?_⟩
 ·rcases zE2 he with he|⟨_,rfl⟩
  ·have:=h.nn i e he
   omega
  ·exact⟨h0,hm⟩
 all_goals have hlt:=zGX hc
 all_goals rw [List.length_append,List.length_singleton] at hlt
 all_goals rw [List.getElem?_append_left (by omega)] at he
 ·rcases zE2 hc with hc|⟨rfl,e1⟩
  ·exact h.pop i _ _ _ _ hc he
  ·cases e1
   rw [hd] at he
   cases he
   exact hp
 ·rcases zE2 hc with hc|⟨rfl,e1⟩
  ·exact zAI (h.fall i _ _ _ _ hc he h18 h25)
  ·cases e1
   rw [hd] at he
   cases he
   rw [←hf h18 h25]
   exact zGY _ _ hl.symm
 ·rcases zE2 hc with hc|⟨rfl,e1⟩
  ·have h1:=h.jump i _ _ _ _ hc he hJ (fun hq=>hnp (hpp i (zGX hc) hq))
   exact⟨h1.1,zAI h1.2⟩
  ·cases e1
   rw [hd] at he
   cases he
   exact hj hJ hnp
theorem zC9 {i j:Nat} {n o a b:Int} (h:(c.modify i fun x=>(x.1,n,x.2.2))[j]? =some (o,a,b)):∃a2,c[j]? =some (o,a2,b)∧((j=i∧a=n)∨(j≠i∧a2=a)):=by
 rw [List.getElem?_modify] at h
 cases hx:c[j]? with
 |none=>rw [hx] at h;cases h
 |some x=>
  rw [hx] at h
  by_cases e:i=j
  ·subst e
   have h1:some (if i=i then(x.1,n,x.2.2) else x)=some (o,a,b):=h
   rw [if_pos rfl] at h1
   cases h1
   exact⟨x.2.1,rfl,.inl ⟨rfl,rfl⟩⟩
  ·have h1:some (if i=j then(x.1,n,x.2.2) else x)=some (o,a,b):=h
   rw [if_neg e] at h1
   cases h1
   exact⟨a,rfl,.inr ⟨fun e2=>e e2.symm,rfl⟩⟩
theorem Fl.patch (h:Fl c D p m) {i:Nat} {o a b d:Int} (hc:c[i]? =some (o,a,b)) (hD:D[i]? =some d) (ht:D[c.length]? =some (d -pops o b+pushes o)) (hp:∀q,p q→q=i∨p' q):Fl (c.modify i fun x=>(x.1,(c.length:Int),x.2.2)) D p' m:=by
 refine⟨by rw [List.length_modify];exact h.len,h.nn,fun j o1 a1 b1 e hj he=>?_,fun j o1 a1 b1 e hj he h18 h25=>?_,fun j o1 a1 b1 e hj he hJ hnp=>?_⟩
 ·obtain⟨a2,h1,_⟩:=zC9 hj
  exact h.pop j _ _ _ _ h1 he
 ·obtain⟨a2,h1,_⟩:=zC9 hj
  exact h.fall j _ _ _ _ h1 he h18 h25
 ·obtain⟨a2,h1,h2⟩:=zC9 hj
  rcases h2 with ⟨rfl,rfl⟩|⟨h2,rfl⟩
  ·rw [hc] at h1
   cases h1
   rw [hD] at he
   cases he
   exact⟨by omega,by rw [Int.toNat_natCast];exact ht⟩
  ·exact h.jump j _ _ _ _ h1 he hJ (fun hq=>(hp j hq).elim h2 hnp)
end
inductive Fin (cs:List C) (fs:List ByteArray) (nn ln cl:Nat) (lg:Bool):Ins→Prop
 |push (n:Int) (h: -2305843009213693952≤n) (h2:n≤2305843009213693951):Fin cs fs nn ln cl lg (0,n,0)
 |flat (o:Int) (h:o=1∨o=2∨o=12∨o=13∨o=14∨o=15∨o=17∨o=22∨o=23∨o=25):Fin cs fs nn ln cl lg (o,0,0)
 |loc (o:Int) (n:Nat) (h:o=3∨o=4) (h2:n<ln):Fin cs fs nn ln cl lg (o,(n:Int),0)
 |nam (o:Int) (n:Nat) (h:o=6∨o=8∨o=24) (h2:n<nn):Fin cs fs nn ln cl lg (o,(n:Int),0)
 |snd (n:Nat) (b:Int) (h2:n<nn) (h:0≤b) (h3:lg=false→b≤8):Fin cs fs nn ln cl lg (21,(n:Int),b)
 |own (o:Int) (n:Nat) (h:o=7∨o=9) (h2:n<fs.length):Fin cs fs nn ln cl lg (o,(n:Int),0)
 |new (o:Int) (i:Nat) (c:C) (b:Int) (h:o=10∨o=11) (h2:cs[i]? =some c) (h3:0≤b) (h4:b≤c.fields.length):Fin cs fs nn ln cl lg (o,(i:Int)+1,b)
 |bin (o:Int) (h:0≤o) (h2:o≤10):Fin cs fs nn ln cl lg (16,o,0)
 |jmp (o:Int) (n:Nat) (h:Jp o) (h2:n≤cl):Fin cs fs nn ln cl lg (o,(n:Int),0)
section
variable {cs:List C} {fs:List ByteArray}
theorem Fin.mono {nn ln cl nn' ln' cl':Nat} {lg lg':Bool} {x:Ins} (h:Fin cs fs nn ln cl lg x) (h1:nn≤nn') (h2:ln≤ln') (h3:cl≤cl') (h4:lg'=false→lg=false):Fin cs fs nn' ln' cl' lg' x:=by
 cases h with
 |push n a b=>exact .push n a b
 |flat o a=>exact .flat o a
 |loc o n a b=>exact .loc o n a (by omega)
 |nam o n a b=>exact .nam o n a (by omega)
 |snd n b a d e=>exact .snd n b (by omega) d (fun q=>e (h4 q))
 |own o n a b=>exact .own o n a b
 |new o i c b h a d e=>exact .new o i c b h a d e
 |bin o a b=>exact .bin o a b
 |jmp o n a b=>exact .jmp o n a (by omega)
structure Sd (cs:List C) (fs:List ByteArray) (p:Nat→Prop) (g:G) (D:List Int):Prop where
 fl:Fl g.code D p g.most
 top:D[g.code.length]? =some g.depth
 ins:∀(i:Nat) (x:Ins),g.code[i]? =some x→Fin cs fs g.names.length g.locals g.code.length g.large x
 nums:∀v∈g.vars,v.2<g.locals
variable {p p':Nat→Prop} {g h:G} {D:List Int}
theorem Sd.nn (s:Sd cs fs p g D):0≤g.depth∧g.depth≤g.most:=s.fl.nn _ _ s.top
theorem zGT {c:List Ins} {x:Ins} {P:Ins→Prop} (h:∀(i:Nat) (y:Ins),c[i]? =some y→P y) (hx:P x):∀(i:Nat) (y:Ins),(c++ [x])[i]? =some y→P y:=fun i y hy=>by
 rcases zE2 hy with hy|⟨_,rfl⟩
 ·exact h i y hy
 ·exact hx
theorem Sd.em (s:Sd cs fs p g D) {o a b P Q:Int} (hP:pops o b=P) (hQ:pushes o=Q) (hj:¬Jp o) (hd:P≤g.depth) (hf:Fin cs fs g.names.length g.locals (g.code.length+1) g.large (o,a,b)):Sd cs fs p (emit g o a b P Q) (D++ [g.depth -P+Q]):=by
 have h1:=s.nn
 have h2:=zPI o
 have hm1:g.depth -P+Q≤max g.most (g.depth -P+Q):=by omega
 have hm2:g.most≤max g.most (g.depth -P+Q):=by omega
 refine⟨s.fl.add s.top (by omega) (by omega) hm1 hm2 (fun _ _=>by rw [hP,hQ]) (fun hJ=>absurd hJ hj) (fun i _ hi=>hi),zGY _ _ (by rw [zO,s.fl.len]),?_,s.nums⟩
 rw [zO]
 exact zGT (fun i x hx=>(s.ins i x hx).mono (Nat.le_refl _) (Nat.le_refl _) (Nat.le_succ _) id) hf
theorem Sd.jp (s:Sd cs fs p g D) {o P:Int} (hP:pops o 0=P) (hQ:pushes o=0) (ho:Jp o) (hd:P≤g.depth) (hp:∀i,p i→p' i) (hn:p' g.code.length):Sd cs fs p' (emit g o 0 0 P 0) (D++ [g.depth -P+0]):=by
 have h1:=s.nn
 have hm1:g.depth -P+0≤max g.most (g.depth -P+0):=by omega
 have hm2:g.most≤max g.most (g.depth -P+0):=by omega
 refine⟨s.fl.add s.top (by omega) (by omega) hm1 hm2 (fun _ _=>by rw [hP,hQ]) (fun _ hx=>absurd hn hx) (fun i _ hi=>hp i hi),zGY _ _ (by rw [zO,s.fl.len]),?_,s.nums⟩
 rw [zO]
 exact zGT (fun i x hx=>(s.ins i x hx).mono (Nat.le_refl _) (Nat.le_refl _) (Nat.le_succ _) id) (.jmp o 0 ho (Nat.zero_le _))
theorem Sd.jd (s:Sd cs fs p g D) (hd:1≤g.depth) (hp:∀i,p i→p' i) (hn:p' g.code.length):Sd cs fs p' { emit g 18 0 0 0 0 with depth:=(emit g 18 0 0 0 0).depth -1 } (D++ [g.depth -1]):=by
 have h1:=s.nn
 have hm1:g.depth -1≤max g.most (g.depth -0+0):=by omega
 have hm2:g.most≤max g.most (g.depth -0+0):=by omega
 refine⟨s.fl.add s.top (by show pops 18 0≤_;rw [show pops 18 0=0 from by decide];omega) (by omega) hm1 hm2 (fun hx=>absurd rfl hx) (fun _ hx=>absurd hn hx) (fun i _ hi=>hp i hi),?_,?_,s.nums⟩
 ·show(D++ [g.depth -1])[(emit g 18 0 0 0 0).code.length]? =some (g.depth -0+0 -1)
  rw [zO,zGY _ _ s.fl.len.symm]
  congr 1
  omega
 ·show ∀(i:Nat) (x:Ins),(g.code++ [(18,0,0)])[i]? =some x→Fin cs fs g.names.length g.locals (emit g 18 0 0 0 0).code.length g.large x
  rw [zO]
  exact zGT (fun i x hx=>(s.ins i x hx).mono (Nat.le_refl _) (Nat.le_refl _) (Nat.le_succ _) id) (.jmp 18 0 (.inl rfl) (Nat.zero_le _))
theorem Sd.back (s:Sd cs fs p g D) {n:Nat} (hn:D[n]? =some g.depth):Sd cs fs p (emit g 18 (n:Int) 0 0 0) (D++ [g.depth -0+0]):=by
 have h1:=s.nn
 have hm1:g.depth -0+0≤max g.most (g.depth -0+0):=by omega
 have hm2:g.most≤max g.most (g.depth -0+0):=by omega
 have h3:=zGX hn
 rw [s.fl.len] at h3
 refine⟨s.fl.add s.top (by show pops 18 0≤_;rw [show pops 18 0=0 from by decide];omega) (by omega) hm1 hm2 (fun hx=>absurd rfl hx) (fun _ _=>⟨by omega,?_⟩) (fun i _ hi=>hi),zGY _ _ (by rw [zO,s.fl.len]),?_,s.nums⟩
 ·rw [Int.toNat_natCast]
  refine(zAI hn).trans ?_
  rw [show pops 18 0=0 from by decide,show pushes 18=0 from by decide]
  congr 1
  omega
 ·rw [zO]
  exact zGT (fun i x hx=>(s.ins i x hx).mono (Nat.le_refl _) (Nat.le_refl _) (Nat.le_succ _) id) (.jmp 18 n (.inl rfl) (by omega))
theorem Sd.patch (s:Sd cs fs p g D) {i:Nat} {o a d:Int} (hc:g.code[i]? =some (o,a,0)) (hD:D[i]? =some d) (ho:Jp o) (ht:g.depth=d -pops o 0) (hp:∀q,p q→q=i∨p' q):Sd cs fs p' (patch g i) D:=by
 have hq:pushes o=0:=by rcases ho with rfl|rfl|rfl<;>decide
 refine⟨s.fl.patch hc hD (by rw [s.top,hq,ht];congr 1;omega) hp,by rw [zBC];exact s.top,fun j x hx=>?_,s.nums⟩
 rw [zBC]
 obtain⟨x1,x2,x3⟩:=x
 obtain⟨a2,h1,h2⟩:=zC9 hx
 rcases h2 with ⟨rfl,rfl⟩|⟨_,rfl⟩
 ·rw [hc] at h1
  cases h1
  exact .jmp _ _ ho (Nat.le_refl _)
 ·exact s.ins j _ h1
theorem Sd.shut (s:Sd cs fs p h D) (h0:∀v∈g.vars,v.2<g.locals) (hl:g.locals≤h.locals):Sd cs fs p (shut g h) D:=⟨s.fl,s.top,s.ins,fun v hv=>Nat.lt_of_lt_of_le (h0 v hv) hl⟩
theorem Sd.decl (s:Sd cs fs p g D) (nm:ByteArray):Sd cs fs p { g with vars:=g.vars++ [(nm,g.locals)],locals:=g.locals+1 } D:=by
 refine⟨s.fl,s.top,fun i x hx=>(s.ins i x hx).mono (Nat.le_refl _) (Nat.le_succ _) (Nat.le_refl _) id,fun v hv=>?_⟩
 rcases List.mem_append.1 hv with hv|hv
 ·exact Nat.lt_succ_of_lt (s.nums v hv)
 ·rw [List.mem_singleton.1 hv]
  exact Nat.lt_succ_self _
theorem Sd.lg (s:Sd cs fs p g D) (b:Bool):Sd cs fs p { g with large:=g.large||b } D:=
 ⟨s.fl,s.top,fun i x hx=>(s.ins i x hx).mono (Nat.le_refl _) (Nat.le_refl _) (Nat.le_refl _) (fun hq=>(Bool.or_eq_false_iff.1 hq).1),s.nums⟩
theorem Sd.name (s:Sd cs fs p g D) (nm:ByteArray):Sd cs fs p (name g nm).1 D∧(name g nm).2<(name g nm).1.names.length∧(name g nm).1.depth=g.depth∧(name g nm).1.vars=g.vars∧(name g nm).1.code=g.code:=by
 unfold Co.name
 split
 ·rename_i i hi
  exact⟨s,(List.findIdx?_eq_some_iff_getElem.1 hi).1,rfl,rfl,rfl⟩
 ·refine⟨⟨s.fl,s.top,fun i x hx=>(s.ins i x hx).mono ?_ (Nat.le_refl _) (Nat.le_refl _) id,s.nums⟩,?_,rfl,rfl,rfl⟩
  ·show _≤(g.names++ [nm]).length
   rw [List.length_append]
   omega
  ·show g.names.length<(g.names++ [nm]).length
   rw [List.length_append,List.length_singleton]
   omega
def Nx (cs:List C) (fs:List ByteArray) (p:Nat→Prop) (g h:G) (D:List Int) (k:Int):Prop:=∃D',Sd cs fs p h (D++D')∧h.depth=g.depth+k
theorem Sd.nx (s:Sd cs fs p g D):Nx cs fs p g g D 0:=⟨[],by rw [List.append_nil];exact s,by omega⟩
theorem Nx.em {k:Int} (n:Nx cs fs p g h D k) {o a b P Q:Int} (hP:pops o b=P) (hQ:pushes o=Q) (hj:¬Jp o) (hd:P≤g.depth+k) (hf:Fin cs fs h.names.length h.locals (h.code.length+1) h.large (o,a,b)):Nx cs fs p g (emit h o a b P Q) D (k -P+Q):=by
 obtain⟨D',s,hk⟩:=n
 exact⟨D'++ [h.depth -P+Q],by rw [←List.append_assoc];exact s.em hP hQ hj (by omega) hf,by show h.depth -P+Q=_;omega⟩
theorem Nx.trans {k k':Int} {h':G} (n:Nx cs fs p g h D k) (m:∀D,Sd cs fs p h D→Nx cs fs p h h' D k'):Nx cs fs p g h' D (k+k'):=by
 obtain⟨D',s,hk⟩:=n
 obtain⟨D2,s2,hk2⟩:=m _ s
 exact⟨D'++D2,by rw [←List.append_assoc];exact s2,by omega⟩
theorem Nx.cast {k k':Int} (n:Nx cs fs p g h D k) (e:k=k'):Nx cs fs p g h D k':=e▸n
end
end Co
end Go.Proofs.YtcnmfcgmnkncaaaGreatDoor
