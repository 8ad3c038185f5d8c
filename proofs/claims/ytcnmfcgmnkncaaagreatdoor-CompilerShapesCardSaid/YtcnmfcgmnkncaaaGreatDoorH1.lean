/-
  Several texts in one: TrFew, CoShape, CoNames, TrFew2, CoDec, CoLawBase, CoObs, SyReqN, CkRefHas, CoUses, CoShapes.
-/
import Derived.Test.YtcnmfcgmnkncaaaGreatDoorG1
import Derived.Below
import Derived.Deep.Slices
import Derived.Deep.Fields
import Derived.ChangeSame
import Derived.Test.YtcnmfcgmnkncaaaGreatDoorRows
import Derived.WalkKit
import Derived.WalkLawsBesides
import Derived.WalkSpells
import Derived.LoopTactic
import Derived.Lib.Hide
import Derived.Test.YtcnmfcgmnkncaaaGreatDoorG2
import Derived.Test.YtcnmfcgmnkncaaaGreatDoorG6
import Derived.Test.YtcnmfcgmnkncaaaGreatDoorG3
import Derived.Lib.Strings
import Derived.Test.YtcnmfcgmnkncaaaGreatDoorG15
import Derived.Test.YtcnmfcgmnkncaaaGreatDoorG25
import Derived.Deep.RegionHeld3
import Derived.Deep.QuietTactic
import Derived.BigQuiet
import Derived.Test.YtcnmfcgmnkncaaaGreatDoorG5
import Derived.Test.YtcnmfcgmnkncaaaGreatDoorG4
import Derived.IntWalk
import Derived.Laws.StructEq
import Derived.Shelf.Strings.OnBuilder
import Derived.Shelf.Strings.Trim
import Derived.Shelf.Small.Strs
import Derived.Shelf.Strings.Prefix
import Derived.Shelf.Strings.Search3
import Derived.Shelf.Strconv.ParseIntPublic10
import Derived.Shelf.Slices.Turned
import Derived.Shelf.Slices.Clone
import Derived.Test.YtcnmfcgmnkncaaaGreatDoorProg
import Derived.Shelf.Strings.SlTrimAscii
import Derived.Shelf.Spec.SearchS
import Derived.Lib.ParseIntB
import Derived.Maps.Own
import Derived.Maps.Views
import Derived.StillTailTactics
import Derived.Test.YtcnmfcgmnkncaaaGreatDoorG26
import Derived.Test.YtcnmfcgmnkncaaaGreatDoorG24
import Derived.Test.YtcnmfcgmnkncaaaGreatDoorG16
import Derived.Test.YtcnmfcgmnkncaaaGreatDoorG14
import Derived.Test.YtcnmfcgmnkncaaaGreatDoorG12
import Derived.Laws.AppendOwn
import Derived.Laws.Rows
import Derived.OneCell
import Derived.Laws.AppendOwnNone
import Derived.OwnWalk
import Derived.Deep.LoopGhost
import Derived.Deep.DeepCutAuto
import Derived.Test.YtcnmfcgmnkncaaaGreatDoorG9
import Derived.Test.YtcnmfcgmnkncaaaGreatDoorG8
import Derived.Test.YtcnmfcgmnkncaaaGreatDoorG7
import Derived.RangeFuncNested
import Derived.RangeFuncBound
import Derived.RangeFuncCalls
import Derived.RangeFuncLeaves
import Derived.RangeFuncBox
import Derived.Shelf.Abstract
import Derived.Shelf.RegionOpen
import Derived.OwnWalkIn
import Derived.TacticsInMore
import Derived.LoopNIn
import Derived.LoopIn
import Derived.Test.YtcnmfcgmnkncaaaGreatDoorG11
import Derived.Test.YtcnmfcgmnkncaaaGreatDoorG10
import Derived.Laws.Bits64b
import Derived.Maps.OwnSet
import Derived.Test.YtcnmfcgmnkncaaaGreatDoorG13
import Derived.Laws.ResultCell
import Derived.Test.YtcnmfcgmnkncaaaGreatDoorG23
import Derived.Test.YtcnmfcgmnkncaaaGreatDoorG20
import Derived.Test.YtcnmfcgmnkncaaaGreatDoorG19
import Derived.Test.YtcnmfcgmnkncaaaGreatDoorG18
import Derived.Test.YtcnmfcgmnkncaaaGreatDoorG17
import Derived.StringKeys
import Derived.Ground.SlmcProg
import Derived.Shelf.SlMaps.Clone
import Derived.Deep.CutBlock
import Derived.Test.YtcnmfcgmnkncaaaGreatDoorG22
import Derived.Test.YtcnmfcgmnkncaaaGreatDoorG21
import Derived.Laws.EntriesVeiled
import Derived.Lib.SliceRun
namespace Go.Proofs.YtcnmfcgmnkncaaaGreatDoor
open Go.RowKit
namespace Tr
theorem leftS_long {s:S} {n:Int} (h:40<s.name.size):leftS s n= -1:=by
 cases s with
 |mk k nm x b l=>rw [leftS];exact if_pos h
theorem leftS_of {s:S} {n m2 m3 m4:Int} (h:¬40<s.name.size) (h2:leftEs s.exprs (n -1)=m2) (h3:(if 0≤m2 then leftSs s.body m2 else m2)=m3) (h4:(if 0≤m3 then leftSs s.els m3 else m3)=m4):leftS s n=m4:=by
 cases s with
 |mk k nm x b l=>
  have h':¬40<nm.size:=h
  rw [leftS,if_neg h']
  subst h2
  subst h3
  exact h4
theorem drop_get {α:Type} {l:List α} {j:Nat} {x:α} (h:l[j]? =some x):l.drop j=x::l.drop (j+1):=by
 obtain⟨hlt,rfl⟩:=List.getElem?_eq_some_iff.1 h
 exact List.drop_eq_getElem_cons hlt
end Tr
set_option maxRecDepth 100000 in
set_option maxHeartbeats 1000000 in
theorem short_any (v:Value) (l:List ByteArray) (n:Int) (w:World) (h:SlStr w v l) (h0: -1≤n) (hn:n≤1000000):
 Calls Tryz.prog 31 #[v,.int .i64 n] w fun r w'=>r= .returned (.int .i64 (Tr.shortL l n))∧w=w':=by
 obtain⟨p,c,rfl,hl,_,hx⟩:=h
 have HX:=Lib.hid hx
 unfold maxLen at hl
 obtain⟨N,hN⟩:∃N,l.length=N:=⟨_,rfl⟩
 rw [hN] at hl ⊢
 have HN:=Lib.hid hN
 clear hx hN
 go_enter Tryz.func31,Tryz.ntmps31
 go_wp2
 go_loop [5] (fun s5=>∃j:Nat,s5= .int .i64 j∧j≤N∧∀t s,t<j→l[t]? =some s→s.size≤40) (fun s5=>N -(intOf s5).toNat)
 case atStart=>exact ⟨0,rfl,Nat.zero_le _,fun t s ht=>by omega⟩
 case round=>
  obtain⟨j,rfl,hj,hall⟩:=hrel
  have HA:=Lib.hid hall
  clear hall
  by_cases hlt:j<N
  ·obtain⟨x,hx⟩:∃x,l[j]? =some x:=⟨_,List.getElem?_eq_getElem (by rw [HN.out];exact hlt)⟩
   obtain⟨hsz,b,o,rfl,hb,hc⟩:=HX.out j x hx
   have HXJ:=Lib.hid hx
   unfold maxLen at hsz
   clear hx
   by_cases h40:40<x.size
   ·go_wp2
    go_ret
    refine⟨?_,rfl⟩
    have:(l.any fun s=>decide (40<s.size))=true:=List.any_eq_true.2 ⟨x,List.mem_of_getElem? HXJ.out,decide_eq_true h40⟩
    rw [Tr.shortL,if_pos this];rfl
   ·go_wp2
    go_round
    case rel=>
     refine⟨j+1,by go_num,by omega,fun t s ht hts=>?_⟩
     by_cases e:t=j
     ·subst e;rw [HXJ.out] at hts;cases hts;omega
     ·exact HA.out t s (by omega) hts
    case measure=>simp [intOf];omega
  ·obtain rfl:j=N:=by omega
   go_wp2
   go_ret
   refine⟨?_,rfl⟩
   have:(l.any fun s=>decide (40<s.size))=false:=by
    rw [Bool.eq_false_iff]
    intro h
    obtain⟨s,hs,h2⟩:=List.any_eq_true.1 h
    obtain⟨t,ht,e⟩:=List.mem_iff_getElem.1 hs
    have:=HA.out t s (by rw [←HN.out];exact ht) (by rw [List.getElem?_eq_getElem ht,e])
    simp at h2
    omega
   rw [Tr.shortL,if_neg (by rw [this];simp),HN.out];rfl
set_option maxRecDepth 100000 in
set_option maxHeartbeats 4000000 in
theorem leftStmts_any:∀(d:Nat) (l:List Tr.S) (v:Value) (n:Int) (w:World),Tr.S.deep.deeps l≤d→SlS w v l→0≤n→n≤1000000→
 Calls Tryz.prog 32 #[v,.int .i64 n] w fun r w'=>r= .returned (.int .i64 (Tr.leftSs l n))∧Below w.heap.size w w':=by
 intro d
 induction d using Nat.strongRecOn with
 |ind d ih=>
  intro l v n w hd hS h0 hn
  obtain⟨p,c,rfl,_⟩:=hS.form
  have hll:=hS.len
  unfold maxLen at hll
  obtain⟨N,hN⟩:∃N,l.length=N:=⟨_,rfl⟩
  rw [hN] at hS hll ⊢
  have HS:=Lib.hid hS
  have HN:=Lib.hid hN
  have HD:=Lib.hid hd
  have HIH:=Lib.hid ih
  clear hS hN hd ih
  go_enter Tryz.func32,Tryz.ntmps32
  go_wp2
  go_loopw [1,5] (fun s1 s5 wr=>∃(j:Nat) (m:Int),s5= .int .i64 j∧j≤N∧s1= .int .i64 m∧ -1≤m∧m≤1000000∧Tr.leftSs (l.drop j) m=Tr.leftSs l n∧Below w.heap.size w wr) (fun _ s5 _=>N -(intOf s5).toNat)
  case atStart=>exact ⟨0,n,rfl,Nat.zero_le _,rfl,by omega,by omega,rfl,Below.refl _ _⟩
  case round=>
   obtain⟨j,m,rfl,hj,rfl,hm0,hm1,heq,hbr⟩:=hrel
   obtain⟨wo,rfl⟩:∃wo:World,wo=wr:=⟨_,rfl⟩
   have HEQ:=Lib.hid heq
   have HBR:=Lib.hid hbr
   by_cases hlt:j<N
   ·by_cases hm:0≤m
    ·obtain⟨x,hx⟩:∃x,l[j]? =some x:=⟨_,List.getElem?_eq_getElem (by rw [HN.out];exact hlt)⟩
     obtain⟨b,oo,vx,vy,vz,rfl,hblt,hc,hbd,hsx,hsy,hsz⟩:=(HS.out.keep hbr).get hx
     obtain⟨x0,x1,x2,x3,x4⟩:=hc
     have hnm:=hbd.name
     unfold maxLen at hnm
     rw [Tr.drop_get hx,Tr.leftSs_cons hm] at heq
     have HEQ2:=Lib.hid heq
     have HX:=Lib.hid hx
     clear heq hbr hx HEQ
     by_cases h40:40<x.name.size
     ·have hres:Tr.leftSs l n= -1:=by rw [←HEQ2.out,Tr.leftS_long h40,Tr.leftSs_neg (by omega)]
      have HR:=Lib.hid hres
      clear hres
      go_wp2
      go_ret
      exact⟨by rw [HR.out];rfl,HBR.out⟩
     ·obtain⟨px,cx,rfl,_⟩:=hsx.form
      have hxl:=hsx.len
      unfold maxLen at hxl
      obtain⟨X,hX⟩:∃X,x.exprs.length=X:=⟨_,rfl⟩
      rw [hX] at hsx hxl x2
      have HSX:=Lib.hid hsx
      have HSY:=Lib.hid hsy
      have HSZ:=Lib.hid hsz
      have HX0:=Lib.hid hX
      clear hsx hsy hsz hX
      go_wp2
      go_loopw [1,6] (fun s1 s6 wr=>∃(k:Nat) (m2:Int),s6= .int .i64 k∧k≤X∧s1= .int .i64 m2∧ -1≤m2∧m2≤1000000∧Tr.leftEs (x.exprs.drop k) m2=Tr.leftEs x.exprs (m -1)∧Below wo.heap.size wo wr) (fun _ s6 _=>X -(intOf s6).toNat)
      case atStart=>exact ⟨0,m -1,rfl,Nat.zero_le _,rfl,by omega,by omega,rfl,Below.refl _ _⟩
      case round=>
       obtain⟨k,m2,rfl,hk,rfl,hm20,hm21,heq,hbr⟩:=hrel
       have HE:=Lib.hid heq
       have HBW:=Lib.hid hbr
       have e2:=cell_keep' hbr x2
       by_cases hgo:k<X∧0≤m2
       ·obtain⟨hk1,hk2⟩:=hgo
        obtain⟨y,hy⟩:∃y,x.exprs[k]? =some y:=⟨_,List.getElem?_eq_getElem (by rw [HX0.out];exact hk1)⟩
        obtain⟨b2,o2,aa,rfl,_,hc2,hbd2,hsl2⟩:=(HSX.out.keep hbr).get hy
        obtain⟨y0,y1,y2,y3,y4,y5⟩:=hc2
        have hcall:=leftExpr_any _ y aa m2 wr (Nat.le_refl _) hbd2 hsl2 hk2 hm21
        unfold exprV at hcall
        have hb2:=Tr.leftE_bd y m2 hk2
        rw [Tr.drop_get hy,Tr.leftEs_cons hk2] at heq
        have HE2:=Lib.hid heq
        have HC:=Lib.hid hcall
        obtain⟨r,hr⟩:∃r,Tr.leftE y m2=r:=⟨_,rfl⟩
        rw [hr] at hb2 HE2 HC
        clear heq hbr hcall hy hsl2 hbd2 hr HE x0 x1 x2 x3 x4
        go_wp2_with fail
        refine HC.out.mono ?_
        rintro e w2 ⟨rfl,hb2'⟩
        go_wp2_with fail
        go_roundw
        case rel=>exact ⟨k+1,r,by go_num,by omega,rfl,by omega,by omega,HE2.out,below_next HBW.out hb2'⟩
        case measure=>simp [intOf];omega
       ·have hm2e:Tr.leftEs x.exprs (m -1)=m2:=by
         by_cases hk1:k<X
         ·rw [←heq,Tr.leftEs_neg (by omega)]
         ·rw [←heq,List.drop_eq_nil_of_le (by rw [HX0.out];omega),Tr.leftEs]
        have HM2:=Lib.hid hm2e
        have e3:=cell_keep' hbr x3
        have e4:=cell_keep' hbr x4
        have hgo':X≤k∨(k<X∧m2<0):=by omega
        have hdd:=Tr.S.deep_in HD.out HX.out
        have HDD:=Lib.hid hdd
        clear heq hbr hm2e hgo x0 x1 x2 x3 x4 hdd
        rcases hgo' with hg|⟨hg1,hg2⟩
        ·by_cases c2:0≤m2
         ·have hcall:=HIH.out (d -1) (by have:=HDD.out.1;omega) x.body vy m2 wr HDD.out.2.1 (HSY.out.keep HBW.out) c2 hm21
          have hb3:=Tr.leftSs_bd x.body m2 (by omega)
          have HC:=Lib.hid hcall
          obtain⟨m3,hr⟩:∃r,Tr.leftSs x.body m2=r:=⟨_,rfl⟩
          rw [hr] at hb3 HC
          have HM3:=Lib.hid (show(if 0≤m2 then Tr.leftSs x.body m2 else m2)=m3 by rw [if_pos c2,hr])
          clear hr hcall
          go_wp2_with fail
          refine HC.out.mono ?_
          rintro e w3 ⟨rfl,hb3'⟩
          have HB3:=Lib.hid (below_next HBW.out hb3')
          have f4:=cell_keep' hb3' e4
          clear hb3'
          by_cases c3:0≤m3
          ·have hcall:=HIH.out (d -1) (by have:=HDD.out.1;omega) x.els vz m3 w3 HDD.out.2.2 (HSZ.out.keep HB3.out) c3 (by omega)
           have hb4:=Tr.leftSs_bd x.els m3 (by omega)
           have HC4:=Lib.hid hcall
           obtain⟨m4,hr⟩:∃r,Tr.leftSs x.els m3=r:=⟨_,rfl⟩
           rw [hr] at hb4 HC4
           have HM4:=Lib.hid (show(if 0≤m3 then Tr.leftSs x.els m3 else m3)=m4 by rw [if_pos c3,hr])
           clear hr hcall
           go_wp2_with fail
           refine HC4.out.mono ?_
           rintro e w4 ⟨rfl,hb4'⟩
           go_wp2_with fail
           go_roundw
           case rel=>exact ⟨j+1,m4,by go_num,by omega,rfl,by omega,by omega,by rw [←HEQ2.out,Tr.leftS_of h40 HM2.out HM3.out HM4.out],HBR.out.trans ((below_next HB3.out hb4').mono HBR.out.size)⟩
           case measure=>simp [intOf];omega
          ·have HM4:=Lib.hid (show(if 0≤m3 then Tr.leftSs x.els m3 else m3)=m3 by rw [if_neg c3])
           go_wp2_with fail
           go_roundw
           case rel=>exact ⟨j+1,m3,by go_num,by omega,rfl,by omega,by omega,by rw [←HEQ2.out,Tr.leftS_of h40 HM2.out HM3.out HM4.out],HBR.out.trans (HB3.out.mono HBR.out.size)⟩
           case measure=>simp [intOf];omega
         ·have HM3:=Lib.hid (show(if 0≤m2 then Tr.leftSs x.body m2 else m2)=m2 by rw [if_neg c2])
          have HM4:=Lib.hid (show(if 0≤m2 then Tr.leftSs x.els m2 else m2)=m2 by rw [if_neg c2])
          go_wp2_with fail
          go_roundw
          case rel=>exact ⟨j+1,m2,by go_num,by omega,rfl,by omega,by omega,by rw [←HEQ2.out,Tr.leftS_of h40 HM2.out HM3.out HM4.out],HBR.out.trans (HBW.out.mono HBR.out.size)⟩
          case measure=>simp [intOf];omega
        ·have HM3:=Lib.hid (show(if 0≤m2 then Tr.leftSs x.body m2 else m2)=m2 by rw [if_neg (by omega)])
         have HM4:=Lib.hid (show(if 0≤m2 then Tr.leftSs x.els m2 else m2)=m2 by rw [if_neg (by omega)])
         go_wp2_with fail
         go_roundw
         case rel=>exact ⟨j+1,m2,by go_num,by omega,rfl,by omega,by omega,by rw [←HEQ2.out,Tr.leftS_of h40 HM2.out HM3.out HM4.out],HBR.out.trans (HBW.out.mono HBR.out.size)⟩
         case measure=>simp [intOf];omega
    ·have hres:Tr.leftSs l n=m:=by rw [←heq,Tr.leftSs_neg (by omega)]
     have HR:=Lib.hid hres
     clear heq hbr hres
     go_wp2
     go_ret
     exact⟨by rw [HR.out];rfl,HBR.out⟩
   ·have hres:Tr.leftSs l n=m:=by rw [←heq,List.drop_eq_nil_of_le (by rw [HN.out];omega),Tr.leftSs]
    have HR:=Lib.hid hres
    clear heq hbr hres
    go_wp2
    go_ret
    exact⟨by rw [HR.out];rfl,HBR.out⟩
end Go.Proofs.YtcnmfcgmnkncaaaGreatDoor
namespace Go.Proofs.YtcnmfcgmnkncaaaGreatDoor
namespace Co
open Tr
theorem patch_locals (g:G) (i:Nat):(patch g i).locals=g.locals:=rfl
theorem shut_locals (g h:G):(shut g h).locals=h.locals:=rfl
theorem okS_flat {k:Int} {nm:ByteArray} {n:Nat} {b l:List S} (h:okS k nm n b.length l.length=true) (h3:k≠3):l= []∧(k≠4→b= []):=by
 unfold okS at h
 repeat' split at h
 all_goals first
  |(exact absurd ‹k=3› h3)
  |(simp at h;constructor<;>simp_all)
  |cases h
theorem lets_nil:Ck.lets []=0:=by rw [Ck.lets]
set_option maxHeartbeats 4000000 in
mutual
theorem gS_locals (cs:List C) (fs:List ByteArray):∀(g:G) (s:S),validS s=true→(gS cs fs g s).locals=g.locals+Ck.letsS s
 |g,.mk k nm x b l,hv=>by
  rw [validS,Bool.and_eq_true,Bool.and_eq_true,Bool.and_eq_true] at hv
  have hb:∀h:G,(gSs cs fs h b).locals=h.locals+Ck.lets b:=fun h=>gSs_locals cs fs h b hv.1.2
  have hl:∀h:G,(gSs cs fs h l).locals=h.locals+Ck.lets l:=fun h=>gSs_locals cs fs h l hv.2
  have he:∀l:List E,(gEs cs fs g l).locals=g.locals:=fun l=>gEs_locals cs fs g l
  have hf:=okS_flat hv.1.1.2
  rw [gS,Ck.letsS]
  by_cases h3:k=3
  ·have hz:(if k=0 then 1 else 0:Nat)=0:=if_neg (by omega)
   rw [hz,if_neg (by omega),if_neg (by omega),if_neg (by omega),if_pos h3]
   split
   ·rename_i hle
    have:l= []:=List.isEmpty_iff.1 hle
    subst this
    simp only [patch_locals,shut_locals,hb,emit_locals,he,lets_nil]
    omega
   ·simp only [patch_locals,shut_locals,hl,hb,emit_locals,he]
    omega
  ·obtain⟨rfl,h4⟩:=hf h3
   by_cases hk4:k=4
   ·rw [if_neg (by omega),if_neg (by omega),if_neg (by omega),if_neg (by omega),if_pos hk4,if_neg (by omega)]
    simp only [patch_locals,shut_locals,hb,emit_locals,he,lets_nil]
    omega
   ·have:=h4 hk4
    subst this
    rw [lets_nil]
    by_cases h0:k=0
    ·rw [if_pos h0,if_pos h0]
     simp only [emit_locals,he]
    ·rw [if_neg h0,if_neg h0,if_neg h3,if_neg hk4]
     repeat' split
     all_goals simp only [emit_locals,name_locals,he]
     all_goals omega
theorem gSs_locals (cs:List C) (fs:List ByteArray):∀(g:G) (l:List S),validSs l=true→(gSs cs fs g l).locals=g.locals+Ck.lets l
 |g,[],_=>by rw [gSs,Ck.lets];rfl
 |g,s::r,hv=>by
  rw [validSs,Bool.and_eq_true] at hv
  rw [gSs,gSs_locals cs fs _ r hv.2,gS_locals cs fs g s hv.1,Ck.lets]
  omega
end
theorem Ext.trans {g h k:G} (h1:Ext g h) (h2:Ext h k):Ext g k:=by
 obtain⟨t,e1⟩:=h1
 obtain⟨u,e2⟩:=h2
 exact⟨t++u,by rw [e2,e1,List.append_assoc]⟩
theorem at_emit {g h:G} {o a b p q:Int} (he:Ext (emit g o a b p q) h) (ho:named o=false):∀x,h.code[g.code.length]? =some x→named x.1=false:=by
 intro x hx
 obtain⟨t,e⟩:=he
 have h1:(h.code.map Prod.fst)[g.code.length]? =some x.1:=by rw [List.getElem?_map,hx];rfl
 rw [e] at h1
 have h2:(Co.emit g o a b p q).code.map Prod.fst=g.code.map Prod.fst++ [o]:=by show(g.code++ [(o,a,b)]).map Prod.fst=_;rw [List.map_append];rfl
 rw [h2,List.append_assoc,List.getElem?_append_right (by rw [List.length_map];exact Nat.le_refl _),List.length_map,Nat.sub_self] at h1
 have h3:some o=some x.1:=h1
 injection h3 with h3
 rw [←h3]
 exact ho
end Co
end Go.Proofs.YtcnmfcgmnkncaaaGreatDoor
namespace Go.Proofs.YtcnmfcgmnkncaaaGreatDoor
open Go.RowKit
namespace Tr
theorem shortL_bd (l:List ByteArray) (n:Int) (hl:l.length≤9223372036854775807) (h0: -1≤n) (h1:n≤1000000): -9223372036854775808≤shortL l n∧shortL l n≤n:=by
 unfold shortL
 split<;>omega
theorem leftM_of {m:M} {n a b:Int} (h:¬40<m.name.size) (h1:shortL m.params (n -1)=a) (h2:(if 0≤a then leftSs m.body a else a)=b):leftM m n=b:=by
 unfold leftM
 rw [if_neg h]
 subst h1
 exact h2
theorem leftM_long {m:M} {n:Int} (h:40<m.name.size):leftM m n= -1:=by unfold leftM;rw [if_pos h]
theorem leftC_long {m:C} {n:Int} (h:40<m.name.size):leftC m n= -1:=by unfold leftC;rw [if_pos h]
theorem leftC_of {m:C} {n a b:Int} (h:¬40<m.name.size) (h1:shortL m.fields (n -1)=a) (h2:leftMs m.methods a=b):leftC m n=b:=by
 unfold leftC
 rw [if_neg h,h1,h2]
end Tr
set_option maxRecDepth 100000 in
set_option maxHeartbeats 8000000 in
theorem few_any (v:Value) (cs:List Tr.C) (n:Int) (w:World) (h:SlC w v cs) (h0:0≤n) (hn:n≤1000000):
 Calls Tryz.prog 11 #[.agg #[v],.int .i64 n] w fun r w'=>r= .returned (.bool (Tr.fewP cs n))∧Below w.heap.size w w':=by
 obtain⟨p,c,rfl⟩:=h.form
 have hll:=h.len
 unfold maxLen at hll
 obtain⟨N,hN⟩:∃N,cs.length=N:=⟨_,rfl⟩
 rw [hN] at h hll ⊢
 have hbx:=below_box w (.cells #[.slice p N c] 24)
 have HS:=Lib.hid (h.keep hbx)
 have HN:=Lib.hid hN
 have HB:=Lib.hid hbx
 have b0:=box_cell w #[.slice p N c] 24 0 _ rfl
 obtain⟨w1,hw1⟩:∃w1,w1=w.alloc (.cells #[.slice p N c] 24):=⟨_,rfl⟩
 rw [←hw1] at HS HB b0
 clear h hN hbx
 have hfin:Hid (∀m:Int,Tr.leftCs cs n=m→Tr.fewP cs n=decide (0≤m)):=fun m hm=>by unfold Tr.fewP;rw [hm]
 go_enter Tryz.func11,Tryz.ntmps11
 go_wp2
 rw [←hw1]
 clear hw1
 go_loopw [1,5] (fun s1 s5 wr=>∃(j:Nat) (m:Int),s5= .int .i64 j∧j≤N∧s1= .int .i64 m∧ -9223372036854775808≤m∧m≤1000000∧Tr.leftCs (cs.drop j) m=Tr.leftCs cs n∧Below w1.heap.size w1 wr) (fun _ s5 _=>N -(intOf s5).toNat)
 case atStart=>exact ⟨0,n,rfl,Nat.zero_le _,rfl,by omega,by omega,rfl,Below.refl _ _⟩
 case round=>
  obtain⟨j,m,rfl,hj,rfl,hm0,hm1,heq,hbr⟩:=hrel
  obtain⟨wo,rfl⟩:∃wo:World,wo=wr:=⟨_,rfl⟩
  have HEQ:=Lib.hid heq
  have HBR:=Lib.hid hbr
  have c0:=cell_keep' hbr b0
  by_cases hlt:j<N
  ·by_cases hm:0≤m
   ·obtain⟨x,hx⟩:∃x,cs[j]? =some x:=⟨_,List.getElem?_eq_getElem (by rw [HN.out];exact hlt)⟩
    obtain⟨b,oo,vf,vm,rfl,hblt,hc,hnm,hsf,hsm⟩:=(HS.out.keep hbr).get hx
    obtain⟨x0,x1,x2,x3⟩:=hc
    rw [Tr.drop_get hx,Tr.leftCs_cons hm] at heq
    have HEQ2:=Lib.hid heq
    obtain⟨nm,act,fs,ms⟩:=x
    simp only [] at hnm hsf hsm x0 x1
    unfold maxLen at hnm
    obtain⟨pm,cm,rfl⟩:=hsm.form
    have hml:=hsm.len
    have hfl:fs.length≤maxLen:=by obtain⟨_,_,_,h1,_⟩:=hsf;exact h1
    unfold maxLen at hml hfl
    obtain⟨MN,hMN⟩:∃N,ms.length=N:=⟨_,rfl⟩
    rw [hMN] at hsm hml x3
    obtain⟨pf,cf,rfl⟩:=hsf.form
    have hsb:=Tr.shortL_bd fs (m -1) hfl (by omega) (by omega)
    obtain⟨FN,hFN⟩:∃N,fs.length=N:=⟨_,rfl⟩
    rw [hFN] at hsf x2 hfl
    have hbx:=below_box wo (.cells #[.string nm,.bool act,.slice pf FN cf,.slice pm MN cm] 55)
    have HSF:=Lib.hid (hsf.keep hbx)
    have HSM:=Lib.hid (hsm.keep hbx)
    have HMN:=Lib.hid hMN
    have HBX:=Lib.hid hbx
    have e3:=box_cell wo #[.string nm,.bool act,.slice pf FN cf,.slice pm MN cm] 55 3 _ rfl
    obtain⟨W2,hW2⟩:∃W2,W2=wo.alloc (.cells #[.string nm,.bool act,.slice pf FN cf,.slice pm MN cm] 55):=⟨_,rfl⟩
    rw [←hW2] at HSF HSM HBX e3
    clear hx hbr hsf hsm hMN hFN hbx heq HEQ
    by_cases h40:40<nm.size
    ·have hf:=Lib.hid (hfin.out (-1) (by rw [←HEQ2.out,Tr.leftC_long h40,Tr.leftCs_neg (by omega)]))
     go_wp2
     go_ret
     exact⟨by rw [hf.out];rfl,by first|exact (HB.out.trans (HBR.out.mono HB.out.size)).alloc (Nat.le_trans HB.out.size HBR.out.size) _|exact HB.out.trans ((below_next HBR.out (below_box _ _)).mono HB.out.size)⟩
    ·have HW2:=Lib.hid hW2
     clear hW2
     go_wp2_with fail
     rw [←HW2.out]
     obtain⟨r,hr⟩:∃r,Tr.shortL fs (m -1)=r:=⟨_,rfl⟩
     have hcall:=short_any _ fs (m -1) W2 HSF.out (by omega) (by omega)
     rw [hr] at hcall hsb
     have HR:=Lib.hid hr
     have HCL:=Lib.hid hcall
     clear hr hcall HW2
     refine HCL.out.mono ?_
     rintro e w3 ⟨rfl,rfl⟩
     have HBW:=Lib.hid (below_next HBR.out HBX.out)
     go_wp2_with fail
     go_loopw [1,7] (fun s1 s7 wr=>∃(k:Nat) (m2:Int),s7= .int .i64 k∧k≤MN∧s1= .int .i64 m2∧ -9223372036854775808≤m2∧m2≤1000000∧Tr.leftMs (ms.drop k) m2=Tr.leftMs ms r∧Below W2.heap.size W2 wr) (fun _ s7 _=>MN -(intOf s7).toNat)
     case atStart=>exact ⟨0,r,rfl,Nat.zero_le _,rfl,by omega,by omega,rfl,Below.refl _ _⟩
     case round=>
      obtain⟨k,m2,rfl,hk,rfl,hm20,hm21,heq,hbr⟩:=hrel
      have HE:=Lib.hid heq
      have HBM:=Lib.hid hbr
      have k3:=cell_keep' hbr e3
      by_cases hgo:k<MN∧0≤m2
      ·obtain⟨hk1,hk2⟩:=hgo
       obtain⟨y,hy⟩:∃y,ms[k]? =some y:=⟨_,List.getElem?_eq_getElem (by rw [HMN.out];exact hk1)⟩
       obtain⟨b2,o2,vp,vb,rfl,hblt2,hc2,hnm2,hsp,hsb2⟩:=(HSM.out.keep hbr).get hy
       obtain⟨y0,y1,y2⟩:=hc2
       rw [Tr.drop_get hy,Tr.leftMs_cons hk2] at heq
       have HE2:=Lib.hid heq
       obtain⟨mn,ps,bd⟩:=y
       simp only [] at hnm2 hsp hsb2 y0
       unfold maxLen at hnm2
       have hpl:ps.length≤maxLen:=by obtain⟨_,_,_,h1,_⟩:=hsp;exact h1
       unfold maxLen at hpl
       have hsb3:=Tr.shortL_bd ps (m2 -1) hpl (by omega) (by omega)
       have HSP:=Lib.hid hsp
       have HSB:=Lib.hid hsb2
       clear hy heq hsp hsb2 hpl hbr HE
       by_cases h40m:40<mn.size
       ·have hf:=Lib.hid (hfin.out (-1) (by rw [←HEQ2.out,Tr.leftC_of h40 HR.out (show Tr.leftMs ms r= -1 by rw [←HE2.out,Tr.leftM_long h40m,Tr.leftMs_neg (by omega)]),Tr.leftCs_neg (by omega)]))
        go_wp2
        go_ret
        exact⟨by rw [hf.out];rfl,HB.out.trans ((below_next HBW.out HBM.out).mono HB.out.size)⟩
       ·obtain⟨r2,hr2⟩:∃r,Tr.shortL ps (m2 -1)=r:=⟨_,rfl⟩
        have hcall:=short_any _ ps (m2 -1) wr HSP.out (by omega) (by omega)
        rw [hr2] at hcall hsb3
        have HR2:=Lib.hid hr2
        have HCL2:=Lib.hid hcall
        clear hr2 hcall
        go_wp2_with fail
        refine HCL2.out.mono ?_
        rintro e w4 ⟨rfl,rfl⟩
        by_cases hr0:0≤r2
        ·have hcall:=leftStmts_any _ bd vb r2 wr (Nat.le_refl _) HSB.out hr0 (by omega)
         have hb5:=Tr.leftSs_bd bd r2 (by omega)
         obtain⟨r3,hr3⟩:∃r,Tr.leftSs bd r2=r:=⟨_,rfl⟩
         rw [hr3] at hcall hb5
         have HCL3:=Lib.hid hcall
         have HM3:=Lib.hid (show(if 0≤r2 then Tr.leftSs bd r2 else r2)=r3 by rw [if_pos hr0,hr3])
         clear hr3 hcall
         go_wp2_with fail
         refine HCL3.out.mono ?_
         rintro e w5 ⟨rfl,hb5'⟩
         go_wp2_with fail
         go_roundw
         case rel=>exact ⟨k+1,r3,by go_num,by omega,rfl,by omega,by omega,by rw [←HE2.out,Tr.leftM_of h40m HR2.out HM3.out],below_next HBM.out hb5'⟩
         case measure=>simp [intOf];omega
        ·have HM3:=Lib.hid (show(if 0≤r2 then Tr.leftSs bd r2 else r2)=r2 by rw [if_neg hr0])
         go_wp2_with fail
         go_roundw
         case rel=>exact ⟨k+1,r2,by go_num,by omega,rfl,by omega,by omega,by rw [←HE2.out,Tr.leftM_of h40m HR2.out HM3.out],HBM.out⟩
         case measure=>simp [intOf];omega
      ·have hm2e:Tr.leftMs ms r=m2:=by
        by_cases hk1:k<MN
        ·rw [←heq,Tr.leftMs_neg (by omega)]
        ·rw [←heq,List.drop_eq_nil_of_le (by rw [HMN.out];omega),Tr.leftMs]
       have HM2:=Lib.hid hm2e
       have hgo':MN≤k∨(k<MN∧m2<0):=by omega
       clear heq hbr hm2e hgo
       rcases hgo' with hg|⟨hg1,hg2⟩
       all_goals
        go_wp2_with fail
        go_roundw
        case rel=>exact ⟨j+1,m2,by go_num,by omega,rfl,by omega,by omega,by rw [←HEQ2.out,Tr.leftC_of h40 HR.out HM2.out],HBW.out.trans (HBM.out.mono HBW.out.size)⟩
        case measure=>simp [intOf];omega
   ·have hf:=Lib.hid (hfin.out m (by rw [←heq,Tr.leftCs_neg (by omega)]))
    clear heq hbr
    go_wp2
    go_ret
    exact⟨by rw [hf.out,decide_eq_false (by omega)];rfl,HB.out.trans (HBR.out.mono HB.out.size)⟩
  ·have hf:=Lib.hid (hfin.out m (by rw [←heq,List.drop_eq_nil_of_le (by rw [HN.out];omega),Tr.leftCs]))
   clear heq hbr
   go_wp2
   go_ret
   exact⟨by rw [hf.out];rfl,HB.out.trans (HBR.out.mono HB.out.size)⟩
end Go.Proofs.YtcnmfcgmnkncaaaGreatDoor
namespace Go.Proofs.YtcnmfcgmnkncaaaGreatDoor
theorem SlStr.get {w:World} {p:Option Addr} {n c:Nat} {l:List ByteArray} (h:SlStr w (.slice p n c) l) {j:Nat} {s:ByteArray} (hj:l[j]? =some s):
 ∃b o,p=some ⟨b,o,none⟩∧b<w.heap.size∧w.cell? ⟨b,o+j,none⟩=some (.string s):=by
 obtain⟨p',c',e,_,_,hx⟩:=h
 cases e
 obtain⟨_,b,o,h2,h3,h4⟩:=hx j s hj
 exact⟨b,o,h2,h3,h4⟩
end Go.Proofs.YtcnmfcgmnkncaaaGreatDoor
namespace Go.Proofs.YtcnmfcgmnkncaaaGreatDoor
namespace Cw
open Go.RowKit Go.Maps Pw
def RC (a:Value) (l:List Tr.C):World→Prop:=fun W=>SlC W a l
theorem rc_mn {a:Value} {l:List Tr.C}:Mn (RC a l):=fun _ _ hi h=>SlC.inc h hi
def RCc (a:Value) (l:List Co.Cc):World→Prop:=fun W=>SlCc W a l
theorem rcc_mn {a:Value} {l:List Co.Cc}:Mn (RCc a l):=fun _ _ hi h=>SlCc.inc h hi
def RI (a:Value) (l:List Co.Ins):World→Prop:=fun W=>SlI W a l
theorem ri_mn {a:Value} {l:List Co.Ins}:Mn (RI a l):=fun _ _ hi h=>SlI.inc h hi
abbrev A1 (b:Nat) (x0:Value) (U:World):Prop:=U.cell? ⟨b,0,none⟩=some (x0)
theorem mnA1 {b:Nat} {x0:Value}:Mn (A1 b x0):=fun _ _ hi h=>hi.2 _ _ _ h
theorem Mz.foldA1 {w W:World} {bs:List Bk} {os:List (World→Prop)} {X:Nat} {x0:Value} {t:TypeId} (h:Mz 0 0 w [] (fun _=>True) [] ((X,#[x0],t)::bs) os W):Mz 0 0 w [] (fun _=>True) [] bs (A1 X x0::os) W:=h.fold mnA1 (fun _ hU _=>cell_of_blkP hU (j:=0) rfl)
abbrev A2 (b:Nat) (x0 x1:Value) (U:World):Prop:=U.cell? ⟨b,0,none⟩=some (x0)∧U.cell? ⟨b,1,none⟩=some (x1)
abbrev A3 (b:Nat) (x0 x1 x2:Value) (U:World):Prop:=U.cell? ⟨b,0,none⟩=some (x0)∧U.cell? ⟨b,1,none⟩=some (x1)∧U.cell? ⟨b,2,none⟩=some (x2)
theorem mnA3 {b:Nat} {x0 x1 x2:Value}:Mn (A3 b x0 x1 x2):=fun _ _ hi h=>⟨hi.2 _ _ _ h.1,hi.2 _ _ _ h.2.1,hi.2 _ _ _ h.2.2⟩
theorem Mz.foldA3 {w W:World} {bs:List Bk} {os:List (World→Prop)} {X:Nat} {x0 x1 x2:Value} {t:TypeId} (h:Mz 0 0 w [] (fun _=>True) [] ((X,#[x0,x1,x2],t)::bs) os W):Mz 0 0 w [] (fun _=>True) [] bs (A3 X x0 x1 x2::os) W:=h.fold mnA3 (fun _ hU _=>⟨cell_of_blkP hU (j:=0) rfl,cell_of_blkP hU (j:=1) rfl,cell_of_blkP hU (j:=2) rfl⟩)
abbrev A4 (b:Nat) (x0 x1 x2 x3:Value) (U:World):Prop:=U.cell? ⟨b,0,none⟩=some (x0)∧U.cell? ⟨b,1,none⟩=some (x1)∧U.cell? ⟨b,2,none⟩=some (x2)∧U.cell? ⟨b,3,none⟩=some (x3)
theorem mnA4 {b:Nat} {x0 x1 x2 x3:Value}:Mn (A4 b x0 x1 x2 x3):=fun _ _ hi h=>⟨hi.2 _ _ _ h.1,hi.2 _ _ _ h.2.1,hi.2 _ _ _ h.2.2.1,hi.2 _ _ _ h.2.2.2⟩
theorem Mz.foldA4 {w W:World} {bs:List Bk} {os:List (World→Prop)} {X:Nat} {x0 x1 x2 x3:Value} {t:TypeId} (h:Mz 0 0 w [] (fun _=>True) [] ((X,#[x0,x1,x2,x3],t)::bs) os W):Mz 0 0 w [] (fun _=>True) [] bs (A4 X x0 x1 x2 x3::os) W:=h.fold mnA4 (fun _ hU _=>⟨cell_of_blkP hU (j:=0) rfl,cell_of_blkP hU (j:=1) rfl,cell_of_blkP hU (j:=2) rfl,cell_of_blkP hU (j:=3) rfl⟩)
abbrev A5 (b:Nat) (x0 x1 x2 x3 x4:Value) (U:World):Prop:=U.cell? ⟨b,0,none⟩=some (x0)∧U.cell? ⟨b,1,none⟩=some (x1)∧U.cell? ⟨b,2,none⟩=some (x2)∧U.cell? ⟨b,3,none⟩=some (x3)∧U.cell? ⟨b,4,none⟩=some (x4)
theorem mnA5 {b:Nat} {x0 x1 x2 x3 x4:Value}:Mn (A5 b x0 x1 x2 x3 x4):=fun _ _ hi h=>⟨hi.2 _ _ _ h.1,hi.2 _ _ _ h.2.1,hi.2 _ _ _ h.2.2.1,hi.2 _ _ _ h.2.2.2.1,hi.2 _ _ _ h.2.2.2.2⟩
theorem Mz.foldA5 {w W:World} {bs:List Bk} {os:List (World→Prop)} {X:Nat} {x0 x1 x2 x3 x4:Value} {t:TypeId} (h:Mz 0 0 w [] (fun _=>True) [] ((X,#[x0,x1,x2,x3,x4],t)::bs) os W):Mz 0 0 w [] (fun _=>True) [] bs (A5 X x0 x1 x2 x3 x4::os) W:=h.fold mnA5 (fun _ hU _=>⟨cell_of_blkP hU (j:=0) rfl,cell_of_blkP hU (j:=1) rfl,cell_of_blkP hU (j:=2) rfl,cell_of_blkP hU (j:=3) rfl,cell_of_blkP hU (j:=4) rfl⟩)
abbrev B3 (b o:Nat) (x0 x1 x2:Value) (U:World):Prop:=U.cell? ⟨b,o,none⟩=some (x0)∧U.cell? ⟨b,o+1,none⟩=some (x1)∧U.cell? ⟨b,o+2,none⟩=some (x2)
theorem mnB3 {b o:Nat} {x0 x1 x2:Value}:Mn (B3 b o x0 x1 x2):=fun _ _ hi h=>⟨hi.2 _ _ _ h.1,hi.2 _ _ _ h.2.1,hi.2 _ _ _ h.2.2⟩
abbrev B4 (b o:Nat) (x0 x1 x2 x3:Value) (U:World):Prop:=U.cell? ⟨b,o,none⟩=some (x0)∧U.cell? ⟨b,o+1,none⟩=some (x1)∧U.cell? ⟨b,o+2,none⟩=some (x2)∧U.cell? ⟨b,o+3,none⟩=some (x3)
theorem mnB4 {b o:Nat} {x0 x1 x2 x3:Value}:Mn (B4 b o x0 x1 x2 x3):=fun _ _ hi h=>⟨hi.2 _ _ _ h.1,hi.2 _ _ _ h.2.1,hi.2 _ _ _ h.2.2.1,hi.2 _ _ _ h.2.2.2⟩
abbrev B5 (b o:Nat) (x0 x1 x2 x3 x4:Value) (U:World):Prop:=U.cell? ⟨b,o,none⟩=some (x0)∧U.cell? ⟨b,o+1,none⟩=some (x1)∧U.cell? ⟨b,o+2,none⟩=some (x2)∧U.cell? ⟨b,o+3,none⟩=some (x3)∧U.cell? ⟨b,o+4,none⟩=some (x4)
theorem mnB5 {b o:Nat} {x0 x1 x2 x3 x4:Value}:Mn (B5 b o x0 x1 x2 x3 x4):=fun _ _ hi h=>⟨hi.2 _ _ _ h.1,hi.2 _ _ _ h.2.1,hi.2 _ _ _ h.2.2.1,hi.2 _ _ _ h.2.2.2.1,hi.2 _ _ _ h.2.2.2.2⟩
def RMt (a:Value) (l:List Tr.M):World→Prop:=fun W=>SlM W a l
theorem rmt_mn {a:Value} {l:List Tr.M}:Mn (RMt a l):=fun _ _ hi h=>SlM.inc h hi
section
variable {w W:World} {os:List (World→Prop)}
theorem Mz.ot {r:World→Prop} (h:Mz 0 0 w [] (fun _=>True) [] [] (r::os) W):Mz 0 0 w [] (fun _=>True) [] [] os W:=h.few (fun _ hq=>List.mem_cons_of_mem _ hq)
theorem Mo.cc (h:Mo w os W) (i:Nat) {p:Option Addr} {N c:Nat} {l:List Co.Cc} (hi:os[i]? =some (RCc (.slice p N c) l)) {j:Nat} {x:Co.Cc} (hx:l[j]? =some x):
 ∃b o px nx cx py ny cy,p=some ⟨b,o,none⟩∧b<W.heap.size∧nx=x.fields.length∧ny=x.methods.length∧Hid (Mo w (B4 b (o+j*4) (.string x.name) (.bool x.actor) (.slice px nx cx) (.slice py ny cy)::RN (.slice px nx cx) x.fields::RMm (.slice py ny cy) x.methods::os) W):=by
 obtain⟨b,o,x1,y1,hp,hb,hc,_,h1,h2⟩:=SlCc.get (h.rd i hi) hx
 have h1':=h1
 have h2':=h2
 obtain⟨px,cx,e1,_⟩:=h1'
 obtain⟨py,cy,rfl,_⟩:=h2'.form
 subst e1
 exact⟨b,o,px,_,cx,py,_,cy,hp,hb,rfl,rfl,Lib.hid (Mo.add (Mo.add (Mo.add h rmm_mn h2) rn_mn h1) mnB4 hc)⟩
theorem Mo.tc (h:Mo w os W) (i:Nat) {p:Option Addr} {N c:Nat} {l:List Tr.C} (hi:os[i]? =some (RC (.slice p N c) l)) {j:Nat} {x:Tr.C} (hx:l[j]? =some x):
 ∃b o px nx cx py ny cy,p=some ⟨b,o,none⟩∧b<W.heap.size∧nx=x.fields.length∧ny=x.methods.length∧Hid (Mo w (B4 b (o+j*4) (.string x.name) (.bool x.actor) (.slice px nx cx) (.slice py ny cy)::RN (.slice px nx cx) x.fields::RMt (.slice py ny cy) x.methods::os) W):=by
 obtain⟨b,o,x1,y1,hp,hb,hc,_,h1,h2⟩:=SlC.get (h.rd i hi) hx
 have h1':=h1
 have h2':=h2
 obtain⟨px,cx,e1,_⟩:=h1'
 obtain⟨py,cy,rfl,_⟩:=h2'
 subst e1
 exact⟨b,o,px,_,cx,py,_,cy,hp,hb,rfl,rfl,Lib.hid (Mo.add (Mo.add (Mo.add h rmt_mn h2) rn_mn h1) mnB4 hc)⟩
theorem Mo.cm (h:Mo w os W) (i:Nat) {p:Option Addr} {N c:Nat} {l:List Co.Cm} (hi:os[i]? =some (RMm (.slice p N c) l)) {j:Nat} {x:Co.Cm} (hx:l[j]? =some x):
 ∃b o px nx cx py ny cy,p=some ⟨b,o,none⟩∧b<W.heap.size∧nx=x.code.length∧ny=x.names.length∧nx≤maxLen∧ny≤maxLen∧Hid (Mo w (B5 b (o+j*5) (.string x.name) (.int .i64 x.params) (.int .i64 x.locals) (.slice px nx cx) (.slice py ny cy)::RI (.slice px nx cx) x.code::RN (.slice py ny cy) x.names::os) W):=by
 obtain⟨b,o,x1,y1,hp,hb,hc,_,h1,h2⟩:=SlMm.get (h.rd i hi) hx
 have h1':=h1
 have h2':=h2
 obtain⟨px,cx,rfl,_⟩:=h1'.form
 obtain⟨py,cy,e2,hl2,_⟩:=h2'
 subst e2
 exact⟨b,o,px,_,cx,py,_,cy,hp,hb,rfl,rfl,h1.len,hl2,Lib.hid (Mo.add (Mo.add (Mo.add h rn_mn h2) ri_mn h1) mnB5 hc)⟩
theorem Mo.tm (h:Mo w os W) (i:Nat) {p:Option Addr} {N c:Nat} {l:List Tr.M} (hi:os[i]? =some (RMt (.slice p N c) l)) {j:Nat} {x:Tr.M} (hx:l[j]? =some x):
 ∃b o px nx cx py ny cy,p=some ⟨b,o,none⟩∧b<W.heap.size∧nx=x.params.length∧Hid (Mo w (B3 b (o+j*3) (.string x.name) (.slice px nx cx) (.slice py ny cy)::RS (.slice py ny cy) x.body::os) W):=by
 obtain⟨b,o,x1,y1,hp,hb,hc,_,h1,h2⟩:=SlM.get (h.rd i hi) hx
 obtain⟨px,cx,e1,_⟩:=h1
 obtain⟨py,ny,cy,rfl⟩:∃py ny cy,y1= .slice py ny cy:=by
  obtain⟨py,cy,rfl,_⟩:=h2.form
  exact⟨_,_,_,rfl⟩
 subst e1
 exact⟨b,o,px,_,cx,py,ny,cy,hp,hb,rfl,Lib.hid (Mo.add (Mo.add h rs_mn h2) mnB3 hc)⟩
end
abbrev A0 (b o:Nat) (x:Value) (U:World):Prop:=U.cell? ⟨b,o,none⟩=some x
theorem mnA0 {b o:Nat} {x:Value}:Mn (A0 b o x):=fun _ _ hi h=>hi.2 _ _ _ h
theorem Mz.setRowE {B0 V:Nat} {w W:World} {o0 ow:List Nat} {Q:World→Prop} {bs:List Bk} {os:List (World→Prop)} (h:Mz B0 V w o0 Q ow bs os W) (i:Nat) {X:Nat} {cs:Array Value} {t:TypeId} (hi:bs[i]? =some (X,cs,t)) (cs':Array Value):
 ∃W',Hid (W'=W.setRow X cs')∧Hid (Mz B0 V w o0 Q ow (bs.set i (X,cs',t)) os W'):=
 ⟨_,Lib.hid rfl,Lib.hid (h.set i hi ⟨rfl,rfl,rfl,Nat.le_of_eq (setRow_size ..).symm,fun b _ hn=>setRow_other _ _ _ _ (fun e=>hn (by rw [e]))⟩ (setRow_heap _ _ _ _ _ _ (h.b i hi)))⟩
end Cw
end Go.Proofs.YtcnmfcgmnkncaaaGreatDoor
namespace Go.Proofs.YtcnmfcgmnkncaaaGreatDoor
open Go.RowKit Go.Maps
set_option maxRecDepth 100000 in
set_option maxHeartbeats 4000000 in
theorem refNames_any (l1 l2:List ByteArray) (p1:Option Addr) (N1 c1:Nat) (p2:Option Addr) (N2 c2:Nat) (w:World) (hN1:l1.length=N1) (hN2:l2.length=N2) (h1:SlStr w (.slice p1 N1 c1) l1) (h2:SlStr w (.slice p2 N2 c2) l2):
 Calls Tryz.prog 23 #[.slice p1 N1 c1,.slice p2 N2 c2] w fun r w'=>r= .returned (.bool (decide (l1=l2)))∧Below w.heap.size w w':=by
 have hn1:N1≤9223372036854775807:=by
  have:=h1.len
  rw [hN1] at this
  unfold maxLen at this
  exact this
 have hn2:N2≤9223372036854775807:=by
  have:=h2.len
  rw [hN2] at this
  unfold maxLen at this
  exact this
 have HN1:=Lib.hid hN1
 have HN2:=Lib.hid hN2
 have H1:=Lib.hid h1
 have H2:=Lib.hid h2
 clear hN1 hN2 h1 h2
 by_cases hne:N1=N2
 ·subst hne
  go_enter Tryz.func23,Tryz.ntmps23
  go_wp2_with fail
  go_loopg [5] N1 (fun g s5 wr=>∃j:Nat,s5= .int .i64 j∧j≤N1∧g=N1 -j∧Hid (l1.take j=l2.take j)∧Hid (Below w.heap.size w wr))
  case atStart=>exact ⟨0,rfl,Nat.zero_le _,rfl,rfl,Below.refl _ _⟩
  case round=>
   obtain⟨j,rfl,hj,rfl,HT,HB⟩:=hrel
   by_cases hlt:j<N1
   ·obtain⟨x,hx⟩:∃x,l1[j]? =some x:=⟨_,List.getElem?_eq_getElem (by rw [HN1.out];exact hlt)⟩
    obtain⟨y,hy⟩:∃x,l2[j]? =some x:=⟨_,List.getElem?_eq_getElem (by rw [HN2.out];exact hlt)⟩
    obtain⟨b1,o1,rfl,_,hc1⟩:=H1.out.get hx
    obtain⟨b2,o2,rfl,_,hc2⟩:=H2.out.get hy
    have x0:=cell_keep' HB.out hc1
    have y0:=cell_keep' HB.out hc2
    have HX:=Lib.hid hx
    have HY:=Lib.hid hy
    have HBD:Hid (∀q,Below w.heap.size w (wr.drewN q)):=fun q=>below_drewN HB.out q
    have b3:(j:Int)<(N1:Int):=by omega
    have b5:(0:Int)≤(j:Int):=by omega
    clear hx hy hc1 hc2
    by_cases hxy:x=y
    ·subst hxy
     go_wp2_with fail
     go_quiet (fail)
     go_wp2_with fail
     go_roundg (N1 -(j+1))
     case measure=>omega
     case rel=>exact ⟨j+1,by go_num,by omega,rfl,take_grow HT.out HX.out HY.out,HBD.out _⟩
    ·have hl:(x.toList == y.toList)=false:=beq_eq_false_iff_ne.2 (list_ne hxy)
     go_wp2_with fail
     go_quiet (fail)
     go_wp2_with fail
     go_ret
     refine⟨?_,HBD.out _⟩
     rw [show decide (l1=l2)=false by
      rw [decide_eq_false_iff_not]
      intro h
      have h3:=HX.out
      rw [h,HY.out] at h3
      exact hxy (Option.some.inj h3).symm]
     rfl
   ·obtain rfl:j=N1:=by omega
    go_wp2_with fail
    go_ret
    refine⟨?_,HB.out⟩
    rw [show decide (l1=l2)=true by
     rw [decide_eq_true_iff]
     have h:=HT.out
     rw [List.take_of_length_le (by rw [HN1.out];exact Nat.le_refl _),List.take_of_length_le (by rw [HN2.out];exact Nat.le_refl _)] at h
     exact h]
    rfl
 ·have hf:decide (l1=l2)=false:=by
   rw [decide_eq_false_iff_not]
   intro h
   exact hne (by rw [←HN1.out,←HN2.out,h])
  rw [hf]
  clear hf
  have hne2:¬(N1:Int)=(N2:Int):=by omega
  go_enter Tryz.func23,Tryz.ntmps23
  go_wp2_with fail
  go_ret
  exact⟨rfl,Below.refl _ _⟩
end Go.Proofs.YtcnmfcgmnkncaaaGreatDoor
namespace Go.Proofs.YtcnmfcgmnkncaaaGreatDoor
open Go.RowKit
theorem letsR_keep {B o o2:Nat} {u v:Value} {wb w0 w':World} (h:w0.cell? ⟨B,o,none⟩=some u∧w0.cell? ⟨B,o2,none⟩=some v∧Hid (Below wb.heap.size wb w0)) (hb:Below w0.heap.size w0 w'):
 w'.cell? ⟨B,o,none⟩=some u∧w'.cell? ⟨B,o2,none⟩=some v∧Hid (Below wb.heap.size wb w'):=⟨cell_keep' hb h.1,cell_keep' hb h.2.1,below_next h.2.2.out hb⟩
set_option maxRecDepth 100000 in
set_option maxHeartbeats 2000000 in
theorem letsR_any:∀(d:Nat) (l:List Tr.S) (v:Value) (w:World),Tr.S.deep.deeps l≤d→SlS w v l→Ck.lets l≤1000000→
 Calls Tryz.prog 24 #[v] w fun e w'=>e= .returned (.int .i64 (Ck.lets l))∧Below w.heap.size w w':=by
 intro d
 induction d using Nat.strongRecOn with
 |ind d ih=>
  intro l v w hd h hbd
  obtain⟨p,c,rfl,hcap⟩:=h.form
  have hll:=h.len
  unfold maxLen at hll
  obtain⟨N,hN⟩:∃N,l.length=N:=⟨_,rfl⟩
  rw [hN] at h hll ⊢
  have HS:=Lib.hid h
  have HN:=Lib.hid hN
  have HIH:=Lib.hid ih
  have HD:=Lib.hid hd
  have HBD:=Lib.hid hbd
  clear h hN ih hd hbd hcap
  go_enter Tryz.func24,Tryz.ntmps24
  go_wp2
  go_loopw [3,4] (fun s3 s8 wr=>∃k m:Nat,s8= .int .i64 k∧k≤N∧s3= .int .i64 m∧m=Ck.lets (l.take k)∧Below w.heap.size w wr) (fun _ s8 _=>N -(intOf s8).toNat)
  case atStart=>exact ⟨0,0,rfl,Nat.zero_le _,rfl,by simp [Ck.lets],Below.refl _ _⟩
  case round=>
   obtain⟨k,m,rfl,hk,rfl,hm,hbr⟩:=hrel
   have HM:=Lib.hid hm
   have HBR:=Lib.hid hbr
   by_cases hlt:k<N
   ·obtain⟨x,hx⟩:∃x,l[k]? =some x:=⟨_,List.getElem?_eq_getElem (by rw [HN.out];exact hlt)⟩
    obtain⟨b,oo,vx,vy,vz,rfl,hblt,hc,hbd,hsx,hsy,hsz⟩:=(HS.out.keep hbr).get hx
    obtain⟨x0,x1,x2,x3,x4⟩:=hc
    obtain⟨py,cy,rfl,_⟩:=hsy.form
    obtain⟨pz,cz,rfl,_⟩:=hsz.form
    have hnext:=lets_next hx
    have htk:=lets_take_le l (k+1)
    have hle:=HBD.out
    obtain⟨dp1,dp2,dp3⟩:=Tr.S.deep_in HD.out hx
    obtain⟨y,hy⟩:∃y,Ck.lets x.body=y:=⟨_,rfl⟩
    obtain⟨z,hz⟩:∃y,Ck.lets x.els=y:=⟨_,rfl⟩
    rw [hy,hz] at hnext
    have K1:Hid (∀W,Below wr.heap.size wr W→Calls Tryz.prog 24 #[.slice py x.body.length cy] W fun e w'=>e= .returned (.int .i64 y)∧Below W.heap.size W w'):=fun W hb=>hy▸HIH.out (d -1) (by omega) x.body _ W dp2 (hsy.keep hb) (by omega)
    have K2:Hid (∀W,Below wr.heap.size wr W→Calls Tryz.prog 24 #[.slice pz x.els.length cz] W fun e w'=>e= .returned (.int .i64 z)∧Below W.heap.size W w'):=fun W hb=>hz▸HIH.out (d -1) (by omega) x.els _ W dp3 (hsz.keep hb) (by omega)
    have hbd2:m+(y+z)+1≤1000001:=by rw [hnext,←hm] at htk;split at htk<;>omega
    by_cases hk0:x.kind=0
    ·have hk1:(x.kind == 0)=true:=beq_iff_eq.2 hk0
     have HNX:=Lib.hid (show Ck.lets (l.take (k+1))=Ck.lets (l.take k)+(1+y+z) by rw [hnext,if_pos hk0])
     have hbd3:m+(y+z)+1≤1000000:=by rw [hnext,←hm,if_pos hk0] at htk;omega
     clear hx hbr hsx hsy hsz hbd hnext htk hle dp1 dp2 dp3 hk0 hy hz hm
     have hs1:IntKind.i64.wrap ((m:Int)+1+(y:Int))=(m:Int)+1+(y:Int):=IntWalk.i64_in _ (by omega)
     have hs2:IntKind.i64.wrap ((m:Int)+1+(y:Int)+(z:Int))=(m:Int)+1+(y:Int)+(z:Int):=IntWalk.i64_in _ (by omega)
     have b1:(0:Int)≤(k:Int):=by omega
     have b3:(k:Int)<(N:Int):=by omega
     go_wp2_with fail
     clear hbd2 hbd3
     go_region_held3 (fun w'=>w'.cell? ⟨b,oo+k*5+3,none⟩=some (.slice py x.body.length cy)∧w'.cell? ⟨b,oo+k*5+4,none⟩=some (.slice pz x.els.length cz)∧Hid (Below wr.heap.size wr w')) (first|exact letsR_keep (by assumption) hb|exact ⟨x3,x4,Lib.hid (Below.refl _ _)⟩|exact ⟨x3,x4,Lib.hid (Below.refl _ _).drew⟩|go_keep) (first|(go_at_call 24;(with_reducible refine(K1.out _ (lets_below (by assumption))).mono ?_);rintro e w' ⟨rfl,hb⟩)|(go_at_call 24;(with_reducible refine(K2.out _ (lets_below (by assumption))).mono ?_);rintro e w' ⟨rfl,hb⟩))
     all_goals
      have hbf:=lets_below (by assumption)
      clear hs1 hs2
      go_wp2_with fail
      go_roundw
      case rel=>exact ⟨k+1,m+1+y+z,by go_num,by omega,by go_num,by rw [HNX.out,←HM.out];omega,below_next HBR.out hbf⟩
      case measure=>simp [intOf];omega
    ·have hk1:(x.kind == 0)=false:=beq_eq_false_iff_ne.2 hk0
     have HNX:=Lib.hid (show Ck.lets (l.take (k+1))=Ck.lets (l.take k)+(0+y+z) by rw [hnext,if_neg hk0])
     clear hx hbr hsx hsy hsz hbd hnext htk hle dp1 dp2 dp3 hk0 hy hz hm
     have hs1:IntKind.i64.wrap ((m:Int)+(y:Int))=(m:Int)+(y:Int):=IntWalk.i64_in _ (by omega)
     have hs2:IntKind.i64.wrap ((m:Int)+(y:Int)+(z:Int))=(m:Int)+(y:Int)+(z:Int):=IntWalk.i64_in _ (by omega)
     have b1:(0:Int)≤(k:Int):=by omega
     have b3:(k:Int)<(N:Int):=by omega
     go_wp2_with fail
     clear hbd2
     go_region_held3 (fun w'=>w'.cell? ⟨b,oo+k*5+3,none⟩=some (.slice py x.body.length cy)∧w'.cell? ⟨b,oo+k*5+4,none⟩=some (.slice pz x.els.length cz)∧Hid (Below wr.heap.size wr w')) (first|exact letsR_keep (by assumption) hb|exact ⟨x3,x4,Lib.hid (Below.refl _ _)⟩|exact ⟨x3,x4,Lib.hid (Below.refl _ _).drew⟩|go_keep) (first|(go_at_call 24;(with_reducible refine(K1.out _ (lets_below (by assumption))).mono ?_);rintro e w' ⟨rfl,hb⟩)|(go_at_call 24;(with_reducible refine(K2.out _ (lets_below (by assumption))).mono ?_);rintro e w' ⟨rfl,hb⟩))
     all_goals
      have hbf:=lets_below (by assumption)
      clear hs1 hs2
      go_wp2_with fail
      go_roundw
      case rel=>exact ⟨k+1,m+y+z,by go_num,by omega,by go_num,by rw [HNX.out,←HM.out];omega,below_next HBR.out hbf⟩
      case measure=>simp [intOf];omega
   ·have hfull:l.take k=l:=List.take_of_length_le (by rw [HN.out];omega)
    rw [hfull] at hm
    have HM2:=Lib.hid hm
    clear hbr hm hfull
    go_wp2
    go_ret
    exact⟨by rw [HM2.out];rfl,HBR.out⟩
end Go.Proofs.YtcnmfcgmnkncaaaGreatDoor
namespace Go.Proofs.YtcnmfcgmnkncaaaGreatDoor
namespace Co
open Tr
def Both (g h:G):Prop:=Ext g h∧Inv h
theorem Ext.same {g h:G} (e:h.code=g.code):Ext g h:=⟨[],by rw [e,List.append_nil]⟩
theorem Inv.same {g h:G} (hi:Inv g) (e:h.code=g.code) (e2:h.names=g.names):Inv h:=⟨by rw [e,e2];exact hi.use,by rw [e2];exact hi.nodup⟩
theorem Both.em {g h:G} (b:Both g h) {o:Int} (ho:named o=false) (x y p q:Int):Both g (emit h o x y p q):=⟨b.1.trans (.emit ..),b.2.emit ho _ _ _ _⟩
theorem Both.nm {g h:G} (b:Both g h) (s:ByteArray) {o:Int} (ho:named o=true) (y p q:Int):Both g (emit (name h s).1 o (name h s).2 y p q):=⟨b.1.trans ((Ext.name h s).trans (.emit ..)),b.2.named s ho _ _ _⟩
set_option maxHeartbeats 4000000 in
mutual
theorem gE_inv (cs:List C) (fs:List ByteArray):∀(g:G) (e:E),Inv g→Both g (gE cs fs g e)
 |g,.mk k o i nm a l,h=>by
  have h0:Both g g:=⟨.refl g,h⟩
  have hs:=gEs_inv cs fs g l h
  have h11:=gL_inv cs fs g 19 0 l rfl h
  have h12:=gL_inv cs fs g 20 1 l rfl h
  rw [gE]
  repeat' split
  all_goals first
   |exact h0.em rfl _ _ _ _
   |exact hs.em rfl _ _ _ _
   |exact hs.nm _ rfl _ _ _
   |exact h11
   |exact h12
theorem gEs_inv (cs:List C) (fs:List ByteArray):∀(g:G) (l:List E),Inv g→Both g (gEs cs fs g l)
 |g,[],h=>by rw [gEs];exact⟨.refl g,h⟩
 |g,e::r,h=>by
  have h1:=gE_inv cs fs g e h
  have h2:=gEs_inv cs fs (gE cs fs g e) r h1.2
  rw [gEs]
  exact⟨h1.1.trans h2.1,h2.2⟩
theorem gL_inv (cs:List C) (fs:List ByteArray):∀(g:G) (j v:Int) (l:List E),named j=false→Inv g→Both g (gL cs fs g j v l)
 |g,j,v,[],hj,h=>by rw [gL];exact⟨.refl g,h⟩
 |g,j,v,x::r,hj,h=>by
  have h1:=gE_inv cs fs g x h
  have h3:=gEs_inv cs fs (emit (gE cs fs g x) j 0 0 1 0) r (h1.2.emit hj _ _ _ _)
  rw [gL]
  generalize hg1:gE cs fs g x=g1 at h1 h3 ⊢
  generalize hg3:gEs cs fs (emit g1 j 0 0 1 0) r=g3 at h3 ⊢
  have i4:=(h3.2.emit (o:=17) rfl 0 0 1 1).emit (o:=18) rfl 0 0 0 0
  have e4:Ext (emit g1 j 0 0 1 0) (emit (emit g3 17 0 0 1 1) 18 0 0 0 0):=h3.1.trans ((Ext.emit ..).trans (.emit ..))
  generalize hg4:emit (emit g3 17 0 0 1 1) 18 0 0 0 0=g4 at i4 e4 ⊢
  have e5:Ext g4 { g4 with depth:=g4.depth -1 }:= .same rfl
  have i5:Inv { g4 with depth:=g4.depth -1 }:=i4.same rfl rfl
  generalize hg5:({ g4 with depth:=g4.depth -1 }:G)=g5 at e5 i5 ⊢
  have i6:=i5.patch (at_emit (e4.trans e5) hj)
  have e6:Ext g5 (emit (patch g5 g1.code.length) 0 v 0 0 1):=(Ext.patch ..).trans (.emit ..)
  have i7:=i6.emit (o:=0) rfl v 0 0 1
  have i8:=i7.patch (i:=(emit g3 17 0 0 1 1).code.length) (at_emit (g:=emit g3 17 0 0 1 1) (o:=18) (a:=0) (b:=0) (p:=0) (q:=0) (by rw [hg4];exact e5.trans e6) rfl)
  exact⟨h1.1.trans ((Ext.emit ..).trans (e4.trans (e5.trans (e6.trans (.patch ..))))),i8⟩
end
theorem Both.sm {g h h':G} (b:Both g h) (e:h'.code=h.code) (e2:h'.names=h.names):Both g h':=⟨b.1.trans (.same e),b.2.same e e2⟩
set_option maxHeartbeats 4000000 in
mutual
theorem gS_inv (cs:List C) (fs:List ByteArray):∀(g:G) (s:S),Inv g→Both g (gS cs fs g s)
 |g,.mk k nm x b l,h=>by
  have h0:Both g g:=⟨.refl g,h⟩
  have he:∀l,Both g (gEs cs fs g l):=fun l=>gEs_inv cs fs g l h
  have hb:∀q,Inv q→Both q (gSs cs fs q b):=fun q hq=>gSs_inv cs fs q b hq
  have hl:∀q,Inv q→Both q (gSs cs fs q l):=fun q hq=>gSs_inv cs fs q l hq
  rw [gS]
  by_cases h3:k=3
  ·rw [if_neg (by omega),if_neg (by omega),if_neg (by omega),if_pos h3]
   dsimp only
   have h1:=he ((folds x).take 1)
   generalize gEs cs fs g ((folds x).take 1)=g1 at h1 ⊢
   have i2:=h1.2.emit (o:=19) rfl 0 0 1 0
   have h2:=hb _ i2
   have h2':Both (emit g1 19 0 0 1 0) (shut (emit g1 19 0 0 1 0) (gSs cs fs (emit g1 19 0 0 1 0) b)):=h2.sm rfl rfl
   generalize shut (emit g1 19 0 0 1 0) (gSs cs fs (emit g1 19 0 0 1 0) b)=g2 at h2' ⊢
   split
   ·exact⟨h1.1.trans ((Ext.emit ..).trans (h2'.1.trans (.patch ..))),h2'.2.patch (at_emit h2'.1 rfl)⟩
   ·have i3:=(h2'.2.emit (o:=18) rfl 0 0 0 0).patch (i:=g1.code.length) (at_emit (h2'.1.trans (.emit ..)) rfl)
    have e3:Ext (emit g2 18 0 0 0 0) (patch (emit g2 18 0 0 0 0) g1.code.length):= .patch ..
    generalize patch (emit g2 18 0 0 0 0) g1.code.length=g3 at i3 e3 ⊢
    have h4:Both g3 (shut g2 (gSs cs fs g3 l)):=(hl _ i3).sm rfl rfl
    generalize shut g2 (gSs cs fs g3 l)=g4 at h4 ⊢
    exact⟨h1.1.trans ((Ext.emit ..).trans (h2'.1.trans ((Ext.emit ..).trans (e3.trans (h4.1.trans (.patch ..)))))),h4.2.patch (at_emit (e3.trans h4.1) rfl)⟩
  ·by_cases h4:k=4
   ·rw [if_neg (by omega),if_neg (by omega),if_neg (by omega),if_neg h3,if_pos h4]
    dsimp only
    have h1:=he ((folds x).take 1)
    generalize gEs cs fs g ((folds x).take 1)=g1 at h1 ⊢
    have i2:=h1.2.emit (o:=19) rfl 0 0 1 0
    have h2':Both (emit g1 19 0 0 1 0) (shut (emit g1 19 0 0 1 0) (gSs cs fs (emit g1 19 0 0 1 0) b)):=(hb _ i2).sm rfl rfl
    generalize shut (emit g1 19 0 0 1 0) (gSs cs fs (emit g1 19 0 0 1 0) b)=g2 at h2' ⊢
    exact⟨h1.1.trans ((Ext.emit ..).trans (h2'.1.trans ((Ext.emit ..).trans (.patch ..)))),(h2'.2.emit (o:=18) rfl _ _ _ _).patch (at_emit (h2'.1.trans (.emit ..)) rfl)⟩
   ·rw [if_neg h3,if_neg h4]
    repeat' split
    all_goals first
     |exact (he _).em rfl _ _ _ _
     |exact (he _).nm _ rfl _ _ _
     |exact h0.em rfl _ _ _ _
     |(dsimp only;exact((he ((folds x).take 1)).em (o:=4) rfl (g.locals:Int) 0 1 0).sm rfl rfl)
     |(dsimp only;exact((he (folds x)).nm nm (o:=21) rfl (((folds x).length:Int) - 1) ((folds x).length:Int) 0).sm rfl rfl)
theorem gSs_inv (cs:List C) (fs:List ByteArray):∀(g:G) (l:List S),Inv g→Both g (gSs cs fs g l)
 |g,[],h=>by rw [gSs];exact⟨.refl g,h⟩
 |g,s::r,h=>by
  have h1:=gS_inv cs fs g s h
  have h2:=gSs_inv cs fs (gS cs fs g s) r h1.2
  rw [gSs]
  exact⟨h1.1.trans h2.1,h2.2⟩
end
theorem gM_names {cs:List C} {c:C} {m:M} {g:G} (h:gM cs c m=some g):use g.code 0=some g.names.length∧g.names.Nodup:=by
 unfold gM at h
 dsimp only at h
 split at h
 ·cases h
 ·cases h
  have h1:=gSs_inv cs c.fields ⟨[],[],vars0 m.params,m.params.length,0,0,false⟩ m.body ⟨rfl,List.nodup_nil⟩
  have h2:Both _ (gB cs c.fields ⟨[],[],vars0 m.params,m.params.length,0,0,false⟩ m.body):=h1.sm rfl rfl
  have h3:=(h2.em (o:=25) rfl 0 0 0 0).2
  exact⟨h3.use,h3.nodup⟩
theorem gM_locals {cs:List C} {c:C} {m:M} {g:G} (hv:validSs m.body=true) (h:gM cs c m=some g):g.locals=m.params.length+Ck.lets m.body:=by
 unfold gM at h
 dsimp only at h
 split at h
 ·cases h
 ·cases h
  exact gSs_locals cs c.fields _ _ hv
theorem use_le:∀(c:List Ins) (u v:Nat),use c u=some v→u≤v∧v≤u+c.length
 | [],u,v,h=>by
   rw [use] at h
   cases h
   exact⟨Nat.le_refl _,Nat.le_refl _⟩
 |x::r,u,v,h=>by
  rw [use] at h
  rw [List.length_cons]
  split at h
  ·split at h
   ·cases h
   ·have:=use_le r _ v h
    split at this<;>omega
  ·have:=use_le r u v h
   omega
theorem use_take {c:List Ins} {n:Nat} (h:use c 0=some n) (j:Nat):∃u,use (c.take j) 0=some u∧u≤j:=by
 rw [←List.take_append_drop j c,use_app] at h
 cases hu:use (c.take j) 0 with
 |none=>rw [hu] at h;cases h
 |some u=>
  have:=(use_le _ _ _ hu).2
  rw [List.length_take] at this
  exact⟨u,rfl,by omega⟩
theorem use_next {c:List Ins} {n j u:Nat} {x:Ins} (h:use c 0=some n) (hu:use (c.take j) 0=some u) (hx:c[j]? =some x):
 (named x.1=false→use (c.take (j+1)) 0=some u)∧(named x.1=true→x.2.1≤(u:Int)∧use (c.take (j+1)) 0=some (if x.2.1=(u:Int) then u+1 else u)):=by
 have ht:c.take (j+1)=c.take j++ [x]:=by rw [List.take_add_one,hx];rfl
 obtain⟨v,hv,_⟩:=use_take h (j+1)
 rw [ht,use_app,hu] at hv ⊢
 have hv':use [x] u=some v:=hv
 show(_→use [x] u=some u)∧(_→_∧use [x] u=_)
 rw [use] at hv' ⊢
 refine⟨fun e=>?_,fun e=>?_⟩
 ·rw [e]
  rfl
 ·rw [e,if_pos rfl] at hv' ⊢
  split at hv'
  ·cases hv'
  ·rename_i hn
   rw [if_neg hn]
   exact⟨by omega,rfl⟩
structure ShM (m:M) (x:Cm):Prop where
 name:x.name=m.name
 params:x.params=m.params.length
 locals:x.locals=m.params.length+Ck.lets m.body
 use:use x.code 0=some x.names.length
 nodup:x.names.Nodup
structure ShC (c:C) (x:Cc):Prop where
 name:x.name=c.name
 actor:x.actor=c.actor
 fields:x.fields=c.fields
 len:x.methods.length=c.methods.length
 all:∀(k:Nat) (m:M),c.methods[k]? =some m→∃y,x.methods[k]? =some y∧ShM m y
theorem shapes_of {cs:List C} {l:List Cc} (hv:validP cs=true) (h:ccsOf cs cs=some l):l.length=cs.length∧∀(i:Nat) (c:C),cs[i]? =some c→∃x,l[i]? =some x∧ShC c x:=by
 have h1:=ccsOf_get h
 refine⟨h1.1,fun i c hc=>?_⟩
 obtain⟨ms,hms,hl⟩:=h1.2 i c hc
 have h2:=cmsOf_get hms
 refine⟨_,hl,rfl,rfl,rfl,h2.1,fun k m hm=>?_⟩
 obtain⟨g,hg,hy⟩:=h2.2 k m hm
 have hvm:validSs m.body=true:=by
  unfold validP at hv
  have h3:=List.all_eq_true.1 hv c (List.mem_of_getElem? hc)
  unfold validC at h3
  rw [Bool.and_eq_true] at h3
  have h4:=List.all_eq_true.1 h3.2 m (List.mem_of_getElem? hm)
  unfold validM at h4
  rw [Bool.and_eq_true] at h4
  exact h4.2
 exact⟨_,hy,rfl,rfl,gM_locals hvm hg,(gM_names hg).1,(gM_names hg).2⟩
theorem check_pos {cs:List C} {n:Nat} {r:List Nat} (h:Ck.check cs=n::r):n≠0∧n≤8:=by
 have hm:n∈Ck.check cs:=by rw [h];exact List.mem_cons_self ..
 unfold Ck.check at hm
 split at hm
 ·obtain⟨f,_,rfl⟩:=List.mem_map.1 hm
  unfold Ck.code
  repeat' split
  all_goals omega
 ·rw [List.mem_singleton.1 hm]
  omega
end Co
end Go.Proofs.YtcnmfcgmnkncaaaGreatDoor
