/-
  TrName, TrValR, CoFoldT, CoDec, SySpec, SyEqE, SyReqE, SyReqX.
-/
import Derived.Test.YtcnmfcgmnkncaaaGreatDoorX27
import Derived.Test.YtcnmfcgmnkncaaaGreatDoorX22
import Derived.Test.YtcnmfcgmnkncaaaGreatDoorX17
set_option maxRecDepth 100000
set_option maxHeartbeats 40000000
open Go.Proofs.Tryz
namespace Go.Proofs.YtcnmfcgmnkncaaaGreatDoor
open Go.RowKit
theorem zN1 (w:World):Calls prog 107 #[] w fun e w'=>e= .returned (.slice (some ⟨w.heap.size,0,none⟩) 24 24)/\(∀j,j<24->w'.cell? ⟨w.heap.size,0+j,none⟩=some (.string (kwz j)))/\Below w.heap.size w w':=
 (zLS w).mono fun _ _ ⟨h1,h2⟩=>⟨h1,fun j hj=>by rw [h2];exact zQE Lex.zAH rfl (by simp) j hj,by rw [h2];exact(Below.refl _ _).alloc (kL _) _⟩
theorem zUK:Lex.zAH.length=24:=rfl
theorem zUM (s:BA):inB kwz s 24=Lex.zAH.contains s.data.toList:=by
 rw [Bool.eq_iff_iff];unfold inB kwz;simp only [List.any_eq_true,List.mem_range,decide_eq_true_eq,List.contains_iff_mem]
 constructor
 ·rintro ⟨j,hj,rfl⟩;simp only [];rw [List.getD,kB (by rw [zUK];exact hj)];exact List.getElem_mem _
 ·intro h;obtain⟨j,hj,e⟩:=List.mem_iff_getElem.1 h;refine⟨j,by rw [<-zUK];exact hj,?_⟩;rw [List.getD,kB hj];simp only [Option.getD_some,e]
theorem zMG {c:UInt8} (h:Lex.wordc c=true):(97<=(c.toNat:Int)/\(c.toNat:Int)<=122)\/(65<=(c.toNat:Int)/\(c.toNat:Int)<=90)\/(48<=(c.toNat:Int)/\(c.toNat:Int)<=57)\/(c.toNat:Int)=95:=by
 unfold Lex.wordc Lex.letter Lex.digit at h;simp only [Bool.or_eq_true,decide_eq_true_eq] at h;omega
theorem zST {c:UInt8} (h:Lex.wordc c=false):(c.toNat:Int)<48\/(57<(c.toNat:Int)/\(c.toNat:Int)<65)\/(90<(c.toNat:Int)/\(c.toNat:Int)<95)\/(c.toNat:Int)=96\/122<(c.toNat:Int):=by
 unfold Lex.wordc Lex.letter Lex.digit at h;simp only [Bool.or_eq_false_iff,decide_eq_false_iff_not] at h;omega
theorem zRE (s:BA) (h:0<s.size):s.data.toList.headD 0=s[0]:=zN3 s h
theorem zT6 (s:BA) (k:Nat) (h:k<s.size):s[k]∈s.data.toList:=by
 have e:s.data.toList[k]'(by rw [zHA];exact h)=s[k]:=rfl;rw [<-e];exact List.getElem_mem _
theorem zLL (s:BA) (lo hi:Nat) (w:World) (hs:s.size<=maxLen):
 Calls prog 73 #[.string s,.int .u8 lo,.int .u8 hi] w fun e w'=>e= .returned (.bool (Tr.nameL lo hi s.data.toList))/\Below w.heap.size w w':=by
 unfold maxLen at hs;have no:∀(h:¬(s.data.toList≠ []/\s.data.toList.length<=31/\lo<=(s.data.toList.headD 0).toNat/\(s.data.toList.headD 0).toNat<=hi)),Tr.nameL lo hi s.data.toList=false:=fun h=>by
  unfold Tr.nameL;rw [kE h];rfl
 by_cases h0:s.size=0
 ·have hf:=zh (no (by rw [<-List.length_pos_iff,zHA];omega));have h0':((s.size:Int) == 0)=true:=by rw [h0];rfl
  have h00:s.size<=0:=(by omega);clear no h0;go_in;go_wp2;go_ret;exact⟨by rw [hf.out];rfl,Below.refl _ _⟩
 ·have h1:0<s.size:=by omega
  have h0':((s.size:Int) == 0)=false:=kA.2 (by omega);clear h0;have hhead:=zRE s h1;have hlen:=zHA s;have hne:s.data.toList≠ []:=by rw [<-List.length_pos_iff,hlen];exact h1
  obtain⟨c,hc⟩:∃c,s[0]=c:=⟨_,rfl⟩;have hb1:(0:Int)<=(c.toNat:Int):=(by omega);have hb2:(c.toNat:Int)<=255:=by have:=c.toNat_lt;omega
  rw [hhead,hc] at no;have HH:=zh (hhead.trans hc);have HC:=zh hc;have HNE:=zh hne;have HLEN:=zh hlen;have HNO:=zh no;clear no hhead hne hlen;by_cases h31:31<s.size
  ·have hf:=zh (HNO (fun h=>by have:=h.2.1;rw [HLEN.out] at this;omega));clear hc;go_in;go_wp2;go_ret;exact⟨by rw [hf.out];rfl,Below.refl _ _⟩
  ·by_cases hl:(c.toNat:Int)<(lo:Int)
   ·have hf:=zh (HNO (fun h=>by have:=h.2.2.1;omega));go_in;go_wp2;go_ret;exact⟨by rw [hf.out];rfl,Below.refl _ _⟩
   ·by_cases hh:(hi:Int)<(c.toNat:Int)
    ·have hf:=zh (HNO (fun h=>by have:=h.2.2.2;omega));go_in;go_wp2;go_ret;exact⟨by rw [hf.out];rfl,Below.refl _ _⟩
    ·have hyes:=zh (show decide (s.data.toList≠ []/\s.data.toList.length<=31/\lo<=(s.data.toList.headD 0).toNat/\(s.data.toList.headD 0).toNat<=hi)=true from kS ⟨HNE,by rw [HLEN.out];omega,by rw [HH.out];omega,by rw [HH.out];omega⟩);have hin:=fun b w0 (hcells:∀j,j<24->w0.cell? ⟨b,0+j,none⟩=some (.string (kwz j)))=>in_any b 0 24 24 kwz s w0 (by omega) hcells
     cases hkw:Lex.zAH.contains s.data.toList
     ·have hB:inB kwz s 24=false:=(zUM s).trans hkw;rw [hB] at hin;have HIN:=zh hin;have HKW:=zh hkw;clear hin hkw hB;go_in;go_wp2_with fail;refine(zN1 _).mono ?_;rintro e w1 ⟨rfl,hk1,hb1'⟩;have HK:=zh hk1;have HB1:=zh hb1';clear hk1 hb1';go_wp2_with fail;refine(HIN _ _ HK).mono ?_;rintro e w2 ⟨rfl,rfl⟩;clear hc;go_wp2_with fail
      go_loop [7] (fun s7=>∃k:Nat,s7= .int .i64 k/\k<=s.size/\∀(j:Nat) (hj:j<s.size),j<k->Lex.wordc s[j]=true) (fun s7=>s.size -(intOf s7).toNat)
      case atStart=>exact ⟨0,rfl,kO _,fun j hj h=>by omega⟩
      case round=>
       obtain⟨k,rfl,hk,hall⟩:=hrel;have HA:=zh hall;clear hall;by_cases hlt:k<s.size
       ·have hd1:(0:Int)<=(s[k].toNat:Int):=(by omega);have hd2:(s[k].toNat:Int)<=255:=by have:=s[k].toNat_lt;omega
        cases hw:Lex.wordc s[k]
        ·have hcs:=zST hw;have hn95:((s[k].toNat:Int) != 95)=true:=by rw [bne_iff_ne];omega
         have hf:=zh (show Tr.nameL lo hi s.data.toList=false by
          have:s.data.toList.all Lex.wordc=false:=by
           rw [List.all_eq_false];exact⟨s[k],zT6 s k hlt,by rw [hw];simp⟩
          unfold Tr.nameL;rw [this,Bool.and_false])
         clear hw;rcases hcs with hcs|⟨hcs,hcs'⟩|⟨hcs,hcs'⟩|hcs|hcs
         ·go_wp2;go_ret;exact⟨by rw [hf.out];rfl,HB1⟩
         ·go_wp2;go_ret;exact⟨by rw [hf.out];rfl,HB1⟩
         ·go_wp2;go_ret;exact⟨by rw [hf.out];rfl,HB1⟩
         ·have h1:95<(s[k].toNat:Int):=(by omega);have h2:(s[k].toNat:Int)<97:=(by omega);clear hcs;go_wp2;go_ret;exact⟨by rw [hf.out];rfl,HB1⟩
         ·go_wp2;go_ret;exact⟨by rw [hf.out];rfl,HB1⟩
        ·have hcs:=zMG hw;have HW:=zh hw;clear hw;have hnext:Hid (∀(j:Nat) (hj:j<s.size),j<k+1->Lex.wordc s[j]=true):=by
          intro j hj hjk;by_cases e:j=k
          ·subst e;exact HW
          ·exact HA j hj (by omega)
         rcases hcs with ⟨hcs,hcs'⟩|⟨hcs,hcs'⟩|⟨hcs,hcs'⟩|hcs
         ·go_wp2;go_round
          case rel=>exact ⟨k+1,by go_num,by omega,hnext⟩
          case measure=>simp [intOf];omega
         ·go_wp2;go_round
          case rel=>exact ⟨k+1,by go_num,by omega,hnext⟩
          case measure=>simp [intOf];omega
         ·go_wp2;go_round
          case rel=>exact ⟨k+1,by go_num,by omega,hnext⟩
          case measure=>simp [intOf];omega
         ·have hn95:((s[k].toNat:Int) != 95)=false:=by rw [hcs];rfl
          have h1:94<(s[k].toNat:Int):=(by omega);have h2:(s[k].toNat:Int)<96:=(by omega);clear hcs;go_wp2;go_round
          case rel=>exact ⟨k+1,by go_num,by omega,hnext⟩
          case measure=>simp [intOf];omega
       ·have hf:=zh (show Tr.nameL lo hi s.data.toList=true by
         have:s.data.toList.all Lex.wordc=true:=by
          rw [List.all_eq_true];intro x hx;obtain⟨j,hj,e⟩:=List.mem_iff_getElem.1 hx;have hj':j<s.size:=by rw [HLEN.out] at hj;exact hj
          rw [<-e];exact HA j hj' (by omega)
         unfold Tr.nameL;rw [hyes.out,HKW.out,this];rfl)
        go_wp2;go_ret;exact⟨by rw [hf.out];rfl,HB1⟩
     ·have hB:inB kwz s 24=true:=(zUM s).trans hkw;rw [hB] at hin;have HIN:=zh hin;have HKW:=zh hkw;have hf:=zh (show Tr.nameL lo hi s.data.toList=false by unfold Tr.nameL;rw [hkw,Bool.not_true,Bool.and_false,Bool.false_and]);clear hin hkw hB;go_in;go_wp2_with fail;refine(zN1 _).mono ?_;rintro e w1 ⟨rfl,hk1,hb1'⟩;have HK:=zh hk1;have HB1:=zh hb1';clear hk1 hb1';go_wp2_with fail;refine(HIN _ _ HK).mono ?_;rintro e w2 ⟨rfl,rfl⟩;clear hc;go_wp2;go_ret;exact⟨by rw [hf.out];rfl,HB1⟩
theorem zCV (s:BA) (w:World) (hs:s.size<=maxLen):
 Calls prog 44 #[.string s] w fun e w'=>e= .returned (.bool (Tr.varB s))/\Below w.heap.size w w':=by
 have H:=zh (zLL s 97 122 w hs);go_in;go_wp2_with fail;refine H.mono ?_;rintro e w' ⟨rfl,hb⟩;go_wp2;go_ret;exact⟨rfl,hb⟩
theorem zDU (s:BA) (w:World) (hs:s.size<=maxLen):
 Calls prog 45 #[.string s] w fun e w'=>e= .returned (.bool (Tr.clsB s))/\Below w.heap.size w w':=by
 have H:=zh (zLL s 65 90 w hs);go_in;go_wp2_with fail;refine H.mono ?_;rintro e w' ⟨rfl,hb⟩;go_wp2;go_ret;exact⟨rfl,hb⟩
theorem zLJ (v:Value) (l:List BA) (w:World) (h:SlStr w v l):
 Calls prog 92 #[v] w fun r w'=>r= .returned (.bool (l.all Tr.varB))/\Below w.heap.size w w':=by
 have H:=zh h;obtain⟨p,c,rfl,hl,_,_⟩:=h;unfold maxLen at hl;obtain⟨N,hN⟩:∃N,l.length=N:=⟨_,rfl⟩;rw [hN] at hl H |-;have HN:=zh hN;clear hN;go_in;go_wp2
 go_loopw [3] (fun s3 wr=>∃j:Nat,s3= .int .i64 j/\j<=N/\(∀t s,t<j->l[t]? =some s->Tr.varB s=true)/\Below w.heap.size w wr) (fun s3 _=>N -(intOf s3).toNat)
 case atStart=>exact ⟨0,rfl,kO _,fun t s ht=>by omega,Below.refl _ _⟩
 case round=>
  obtain⟨j,rfl,hj,hall,hbr⟩:=hrel;have HA:=zh hall;have HBR:=zh hbr;clear hall;by_cases hlt:j<N
  ·obtain⟨x,hx⟩:∃x,l[j]? =some x:=⟨_,kB (by rw [HN.out];exact hlt)⟩;obtain⟨p',c',e,_,_,hcell⟩:=H.keep hbr;cases e;obtain⟨hsz,b,o,rfl,hb,hc⟩:=hcell j x hx;have HXJ:=zh hx;have HV:=zh (zCV x wr hsz);clear hx hcell hbr;cases hv:Tr.varB x
   ·have HF:=zh (zES HXJ hv);rw [hv] at HV;clear hv;go_wp2_with fail;refine HV.mono ?_;rintro e w2 ⟨rfl,hb2⟩;go_wp2;go_ret;exact⟨by rw [HF.out];rfl,zC HBR hb2⟩
   ·have HVT:=zh hv;rw [hv] at HV;clear hv;go_wp2_with fail;refine HV.mono ?_;rintro e w2 ⟨rfl,hb2⟩;go_wp2_with fail;go_roundw
    case rel=>
     refine⟨j+1,by go_num,by omega,fun t s ht hts=>?_,zC HBR hb2⟩;by_cases e:t=j
     ·subst e;rw [HXJ.out] at hts;cases hts;exact HVT
     ·exact HA t s (by omega) hts
    case measure=>simp [intOf];omega
  ·obtain rfl:j=N:=by omega
   clear hbr;go_wp2;go_ret;exact⟨by rw [zCU HN.out HA.out];rfl,HBR⟩
theorem zIP:∀(d:Nat) (e:Tr.E) (a:Value) (w:World),e.deep<=d->BdE e->SlE w a e.args->
 Calls prog 19 #[zK e a] w fun r w'=>r= .returned (.bool (Tr.zE e))/\Below w.heap.size w w':=by
 intro d
 induction d with
 |zero=>intro e a w hd;have:=e.deep_pos;omega
 |succ d ih=>
  intro e a w hd hB hS;obtain⟨k,o,i,nm,at_,l⟩:=e;have hsz:nm.size<=maxLen:=hB.name;have hk:=hB.kind;have ho:=hB.op;have hi:=hB.int;have hS':SlE w a l:=hS;obtain⟨p,c,rfl,_⟩:=hS'.form;have hll:=hS'.len;unfold maxLen at hll;obtain⟨N,hN⟩:∃N,l.length=N:=⟨_,rfl⟩;rw [hN] at hS' hll |-;have hbx:=zD w (.cells #[.int .i64 k,.int .i64 o,.int .i64 i,.string nm,.bool at_,.slice p N c] 37);have HS:=zh (hS'.keep hbx);have HN:=zh hN;have HD:=zh hd;have HIH:=zh ih;have HB:=zh hbx;have HC:=zh (zL9 w k o i nm at_ (.slice p N c));have KV:Hid (∀W,Calls prog 44 #[.string nm] W fun e w'=>e= .returned (.bool (Tr.varB nm))/\Below W.heap.size W w'):=fun W=>zCV nm W hsz
  have KC:Hid (∀W,Calls prog 45 #[.string nm] W fun e w'=>e= .returned (.bool (Tr.clsB nm))/\Below W.heap.size W w'):=fun W=>zDU nm W hsz
  have hval:Hid (Tr.zE (.mk k o i nm at_ l)=(Tr.zT l && Tr.okE k o i nm at_ N)):=by rw [Tr.zE,hN];exact rfl
  unfold zK;simp only [Tr.E.kind,Tr.E.op,Tr.E.int,Tr.E.name,Tr.E.at_];obtain⟨w1,hw1⟩:∃w1,w1=w.alloc (.cells #[.int .i64 k,.int .i64 o,.int .i64 i,.string nm,.bool at_,.slice p N c] 37):=⟨_,rfl⟩;rw [<-hw1] at HS HB HC;clear hS hS' hB hN hd ih hbx hsz;go_in;go_wp2;rw [<-hw1];clear hw1
  go_loopw [3] (fun s3 wr=>∃j:Nat,s3= .int .i64 j/\j<=N/\(∀t x,t<j->l[t]? =some x->Tr.zE x=true)/\Below w1.heap.size w1 wr) (fun s3 _=>N -(intOf s3).toNat)
  case atStart=>exact ⟨0,rfl,kO _,fun t x ht=>by omega,Below.refl _ _⟩
  case round=>
   obtain⟨j,rfl,hj,hall,hbr⟩:=hrel;have HA:=zh hall;have HBR:=zh hbr;have c0:=zA hbr (HC 0 _ rfl);have c1:=zA hbr (HC 1 _ rfl);have c2:=zA hbr (HC 2 _ rfl);have c3:=zA hbr (HC 3 _ rfl);have c4:=zA hbr (HC 4 _ rfl);have c5:=zA hbr (HC 5 _ rfl);clear hall;by_cases hlt:j<N
   ·obtain⟨x,hx⟩:∃x,l[j]? =some x:=⟨_,kB (by rw [HN.out];exact hlt)⟩;obtain⟨b,oo,aa,rfl,hblt,hc,hbd,hsl⟩:=(HS.keep hbr).get hx;obtain⟨x0,x1,x2,x3,x4,x5⟩:=hc;have hcall:=HIH x aa wr (Tr.E.deep_args HD (e:= .mk k o i nm at_ l) hx) hbd hsl;unfold zK at hcall;have HX:=zh hx;clear hx hbd hsl hbr c0 c1 c2 c3 c4;cases hv:Tr.zE x
    ·rw [hv] at hcall;have HCL:=zh hcall;have hf:=zh (show Tr.zE (.mk k o i nm at_ l)=false by rw [hval.out,zF0 HX.out hv];rfl);clear hcall hv;go_wp2_with fail;refine HCL.mono ?_;rintro e w2 ⟨rfl,hb2⟩;go_wp2;go_ret;exact⟨by rw [hf.out];rfl,HB.trans ((zC HBR hb2).mono HB.size)⟩
    ·rw [hv] at hcall;have HCL:=zh hcall;have HV:=zh hv;clear hcall hv;go_wp2_with fail;refine HCL.mono ?_;rintro e w2 ⟨rfl,hb2⟩;go_wp2_with fail;go_roundw
     case rel=>
      refine⟨j+1,by go_num,by omega,fun t y ht hty=>?_,zC HBR hb2⟩;by_cases e:t=j
      ·subst e;rw [HX.out] at hty;cases hty;exact HV
      ·exact HA t y (by omega) hty
     case measure=>simp [intOf];omega
   ·have hes:Hid (Tr.zT l=true):=zEU HN (fun t x ht=>HA t x (by omega));have HBF:=zh (HB.trans (HBR.mono HB.size));clear hbr;by_cases hb1:k≠0/\i≠0
    ·obtain⟨q1,q2⟩:=hb1;have hf:Hid (Tr.zE _=false):=hval.trans (by rw [hes.out,kF];simp [Tr.okE,q1,q2]);have h10:(k != 0)=true:=by rw [bne_iff_ne];exact q1
     have h11:(i != 0)=true:=by rw [bne_iff_ne];exact q2
     clear q1 q2;go_wp2;go_ret;exact⟨by rw [hf.out];rfl,HBF⟩
    ·by_cases hb2:k≠10/\o≠0
     ·obtain⟨q1,q2⟩:=hb2;by_cases hk0:k=0
      ·subst hk0;have hf:Hid (Tr.zE _=false):=hval.trans (by rw [hes.out,kF];simp [Tr.okE,q2]);have h11:(o != 0)=true:=by rw [bne_iff_ne];exact q2
       clear hb1 q1 q2;go_wp2;go_ret;exact⟨by rw [hf.out];rfl,HBF⟩
      ·obtain rfl:i=0:=by omega
       have hf:Hid (Tr.zE _=false):=hval.trans (by rw [hes.out,kF];simp [Tr.okE,q1,q2]);have h10:(k != 0)=true:=by rw [bne_iff_ne];exact hk0
       have h11:(o != 0)=true:=by rw [bne_iff_ne];exact q2
       have h12:(k != 10)=true:=by rw [bne_iff_ne];exact q1
       clear hb1 hk0 q1 q2;go_wp2;go_ret;exact⟨by rw [hf.out];rfl,HBF⟩
     ·by_cases hb3:k≠5/\at_=true
      ·obtain⟨q1,rfl⟩:=hb3;by_cases hk0:k=0
       ·subst hk0;obtain rfl:o=0:=by omega
        have hf:Hid (Tr.zE _=false):=hval.trans (by rw [hes.out,kF];simp [Tr.okE]);clear hb1 hb2 q1;go_wp2;go_ret;exact⟨by rw [hf.out];rfl,HBF⟩
       ·obtain rfl:i=0:=by omega
        by_cases hk10:k=10
        ·subst hk10;have hf:Hid (Tr.zE _=false):=hval.trans (by rw [hes.out,kF];simp [Tr.okE]);clear hb1 hb2 q1 hk0;go_wp2;go_ret;exact⟨by rw [hf.out];rfl,HBF⟩
        ·obtain rfl:o=0:=by omega
         have hf:Hid (Tr.zE _=false):=hval.trans (by rw [hes.out,kF];simp [Tr.okE,q1]);have h10:(k != 0)=true:=by rw [bne_iff_ne];exact hk0
         have h11:(k != 10)=true:=by rw [bne_iff_ne];exact hk10
         have h12:(k != 5)=true:=by rw [bne_iff_ne];exact q1
         clear hb1 hb2 q1 hk0 hk10;go_wp2;go_ret;exact⟨by rw [hf.out];rfl,HBF⟩
      ·have hcs:k=0\/k=1\/k=2\/k=3\/k=4\/k=5\/k=6\/k=7\/k=8\/k=9\/k=10\/(k<0\/10<k):=(by omega);have hat:k=5\/at_=false:=by
        by_cases e:k=5
        ·exact .inl e
        ·right;cases at_ with
         |false=>rfl
         |true=>exact absurd ⟨e,rfl⟩ hb3
       rcases hcs with rfl|rfl|rfl|rfl|rfl|rfl|rfl|rfl|rfl|rfl|rfl|hcs
       ·clear hb3;obtain rfl:o=0:=by omega
        obtain rfl:at_=false:=by rcases hat with e|e;exact absurd e (by omega);exact e
        clear hb1 hb2 hat;by_cases hN0:N=0
        ·cases hE:nm.toList.isEmpty
         ·skip;have hf:Hid (Tr.zE _=false):=hval.trans (by rw [hes.out,kF];rw [okE_0];exact kE (fun h=>zB1 hE h.2.1));have hn:((N:Int) == 0)=true:=kX.2 (by omega);have hE2:=hE;clear hE;go_wp2;go_ret;exact⟨by rw [hf.out];rfl,HBF⟩
         ·by_cases hi0:i<0
          ·skip;have hf:Hid (Tr.zE _=false):=hval.trans (by rw [hes.out,kF];rw [okE_0];exact kE (fun h=>by omega));have hn:((N:Int) == 0)=true:=kX.2 (by omega);have hE2:=hE;clear hE;go_wp2;go_ret;exact⟨by rw [hf.out];rfl,HBF⟩
          ·have hi1:0<=i:=(by omega);have hf:Hid (Tr.zE _=decide (i<=2305843009213693951)):=hval.trans (by rw [hes.out,kF];rw [okE_0];exact decide_eq_decide.2 ⟨fun h=>h.2.2.2,fun h=>⟨hN0,zCX hE,hi1,h⟩⟩);have hn:((N:Int) == 0)=true:=kX.2 (by omega);have hE2:=hE;clear hE hi0;go_wp2;go_ret;exact⟨by rw [hf.out];rfl,HBF⟩
        ·skip;have hf:Hid (Tr.zE _=false):=hval.trans (by rw [hes.out,kF];simp [Tr.okE,hN0]);have hn:((N:Int) == 0)=false:=kA.2 (by omega);clear hN0;go_wp2;go_ret;exact⟨by rw [hf.out];rfl,HBF⟩
       ·clear hb3;obtain rfl:i=0:=by omega
        obtain rfl:o=0:=by omega
        obtain rfl:at_=false:=by rcases hat with e|e;exact absurd e (by omega);exact e
        clear hb1 hb2 hat;by_cases hN0:N=0
        ·skip;have hf:Hid (Tr.zE _=nm.toList.isEmpty):=hval.trans (by rw [hes.out,kF];rw [zB5];simp [Tr.okE,hN0]);have hn:((N:Int) == 0)=true:=kX.2 (by omega);clear hN0;go_wp2;go_ret;exact⟨by rw [hf.out];rfl,HBF⟩
        ·skip;have hf:Hid (Tr.zE _=false):=hval.trans (by rw [hes.out,kF];simp [Tr.okE,hN0]);have hn:((N:Int) == 0)=false:=kA.2 (by omega);clear hN0;go_wp2;go_ret;exact⟨by rw [hf.out];rfl,HBF⟩
       ·clear hb3;obtain rfl:i=0:=by omega
        obtain rfl:o=0:=by omega
        obtain rfl:at_=false:=by rcases hat with e|e;exact absurd e (by omega);exact e
        clear hb1 hb2 hat;by_cases hN0:N=0
        ·skip;have hf:Hid (Tr.zE _=nm.toList.isEmpty):=hval.trans (by rw [hes.out,kF];rw [zB5];simp [Tr.okE,hN0]);have hn:((N:Int) == 0)=true:=kX.2 (by omega);clear hN0;go_wp2;go_ret;exact⟨by rw [hf.out];rfl,HBF⟩
        ·skip;have hf:Hid (Tr.zE _=false):=hval.trans (by rw [hes.out,kF];simp [Tr.okE,hN0]);have hn:((N:Int) == 0)=false:=kA.2 (by omega);clear hN0;go_wp2;go_ret;exact⟨by rw [hf.out];rfl,HBF⟩
       ·clear hb3;obtain rfl:i=0:=by omega
        obtain rfl:o=0:=by omega
        obtain rfl:at_=false:=by rcases hat with e|e;exact absurd e (by omega);exact e
        clear hb1 hb2 hat;by_cases hN0:N=0
        ·skip;have hf:Hid (Tr.zE _=Tr.varB nm):=hval.trans (by rw [hes.out,kF];simp [Tr.okE,hN0]);have hn:((N:Int) == 0)=true:=kX.2 (by omega);clear hN0;go_wp2_with fail;refine(KV _).mono ?_;rintro e w2 ⟨rfl,hb2⟩;go_wp2;go_ret;exact⟨by rw [hf.out];rfl,HBF.trans (hb2.mono HBF.size)⟩
        ·skip;have hf:Hid (Tr.zE _=false):=hval.trans (by rw [hes.out,kF];simp [Tr.okE,hN0]);have hn:((N:Int) == 0)=false:=kA.2 (by omega);clear hN0;go_wp2;go_ret;exact⟨by rw [hf.out];rfl,HBF⟩
       ·clear hb3;obtain rfl:i=0:=by omega
        obtain rfl:o=0:=by omega
        obtain rfl:at_=false:=by rcases hat with e|e;exact absurd e (by omega);exact e
        clear hb1 hb2 hat;by_cases hN0:N=1
        ·skip;have hf:Hid (Tr.zE _=Tr.varB nm):=hval.trans (by rw [hes.out,kF];simp [Tr.okE,hN0]);have hn:((N:Int) == 1)=true:=kX.2 (by omega);clear hN0;go_wp2_with fail;refine(KV _).mono ?_;rintro e w2 ⟨rfl,hb2⟩;go_wp2;go_ret;exact⟨by rw [hf.out];rfl,HBF.trans (hb2.mono HBF.size)⟩
        ·skip;have hf:Hid (Tr.zE _=false):=hval.trans (by rw [hes.out,kF];simp [Tr.okE,hN0]);have hn:((N:Int) == 1)=false:=kA.2 (by omega);clear hN0;go_wp2;go_ret;exact⟨by rw [hf.out];rfl,HBF⟩
       ·clear hb3;obtain rfl:i=0:=by omega
        obtain rfl:o=0:=by omega
        clear hb1 hb2 hat;cases hq:Tr.clsB nm
        ·rw [hq] at KC;have hf:Hid (Tr.zE _=false):=hval.trans (by rw [hes.out,kF];simp [Tr.okE,hq]);clear hq;go_wp2_with fail;refine(KC _).mono ?_;rintro e w2 ⟨rfl,hb2⟩;go_wp2;go_ret;exact⟨by rw [hf.out];rfl,HBF.trans (hb2.mono HBF.size)⟩
        ·rw [hq] at KC;cases at_
         ·skip;have hf:Hid (Tr.zE _=true):=hval.trans (by rw [hes.out,kF];simp [Tr.okE,hq]);clear hq;go_wp2_with fail;refine(KC _).mono ?_;rintro e w2 ⟨rfl,hb2⟩;have d4:=zA hb2 c4;have HB2:=zh hb2;clear hb2;go_wp2;go_ret;exact⟨by rw [hf.out];rfl,HBF.trans (HB2.mono HBF.size)⟩
         ·skip;have hf:Hid (Tr.zE _=decide (0<N)):=hval.trans (by rw [hes.out,kF];simp [Tr.okE,hq]);clear hq;go_wp2_with fail;refine(KC _).mono ?_;rintro e w2 ⟨rfl,hb2⟩;have d4:=zA hb2 c4;have d5:=zA hb2 c5;have HB2:=zh hb2;clear hb2;go_wp2;go_ret;exact⟨by rw [hf.out];rfl,HBF.trans (HB2.mono HBF.size)⟩
       ·clear hb3;obtain rfl:i=0:=by omega
        obtain rfl:o=0:=by omega
        obtain rfl:at_=false:=by rcases hat with e|e;exact absurd e (by omega);exact e
        clear hb1 hb2 hat;by_cases hN0:N=1
        ·skip;have hf:Hid (Tr.zE _=nm.toList.isEmpty):=hval.trans (by rw [hes.out,kF];rw [zB5];simp [Tr.okE,hN0]);have hn:((N:Int) == 1)=true:=kX.2 (by omega);clear hN0;go_wp2;go_ret;exact⟨by rw [hf.out];rfl,HBF⟩
        ·skip;have hf:Hid (Tr.zE _=false):=hval.trans (by rw [hes.out,kF];simp [Tr.okE,hN0]);have hn:((N:Int) == 1)=false:=kA.2 (by omega);clear hN0;go_wp2;go_ret;exact⟨by rw [hf.out];rfl,HBF⟩
       ·clear hb3;obtain rfl:i=0:=by omega
        obtain rfl:o=0:=by omega
        obtain rfl:at_=false:=by rcases hat with e|e;exact absurd e (by omega);exact e
        clear hb1 hb2 hat;by_cases hN0:N=1
        ·skip;have hf:Hid (Tr.zE _=nm.toList.isEmpty):=hval.trans (by rw [hes.out,kF];rw [zB5];simp [Tr.okE,hN0]);have hn:((N:Int) == 1)=true:=kX.2 (by omega);clear hN0;go_wp2;go_ret;exact⟨by rw [hf.out];rfl,HBF⟩
        ·skip;have hf:Hid (Tr.zE _=false):=hval.trans (by rw [hes.out,kF];simp [Tr.okE,hN0]);have hn:((N:Int) == 1)=false:=kA.2 (by omega);clear hN0;go_wp2;go_ret;exact⟨by rw [hf.out];rfl,HBF⟩
       ·clear hb3;obtain rfl:i=0:=by omega
        obtain rfl:o=0:=by omega
        obtain rfl:at_=false:=by rcases hat with e|e;exact absurd e (by omega);exact e
        clear hb1 hb2 hat;by_cases hN0:N=1
        ·skip;have hf:Hid (Tr.zE _=nm.toList.isEmpty):=hval.trans (by rw [hes.out,kF];rw [zB5];simp [Tr.okE,hN0]);have hn:((N:Int) == 1)=true:=kX.2 (by omega);clear hN0;go_wp2;go_ret;exact⟨by rw [hf.out];rfl,HBF⟩
        ·skip;have hf:Hid (Tr.zE _=false):=hval.trans (by rw [hes.out,kF];simp [Tr.okE,hN0]);have hn:((N:Int) == 1)=false:=kA.2 (by omega);clear hN0;go_wp2;go_ret;exact⟨by rw [hf.out];rfl,HBF⟩
       ·clear hb3;obtain rfl:i=0:=by omega
        obtain rfl:o=0:=by omega
        obtain rfl:at_=false:=by rcases hat with e|e;exact absurd e (by omega);exact e
        clear hb1 hb2 hat;by_cases hN0:N=1
        ·skip;have hf:Hid (Tr.zE _=nm.toList.isEmpty):=hval.trans (by rw [hes.out,kF];rw [zB5];simp [Tr.okE,hN0]);have hn:((N:Int) == 1)=true:=kX.2 (by omega);clear hN0;go_wp2;go_ret;exact⟨by rw [hf.out];rfl,HBF⟩
        ·skip;have hf:Hid (Tr.zE _=false):=hval.trans (by rw [hes.out,kF];simp [Tr.okE,hN0]);have hn:((N:Int) == 1)=false:=kA.2 (by omega);clear hN0;go_wp2;go_ret;exact⟨by rw [hf.out];rfl,HBF⟩
       ·clear hb3;obtain rfl:i=0:=by omega
        obtain rfl:at_=false:=by rcases hat with e|e;exact absurd e (by omega);exact e
        clear hb1 hb2 hat;by_cases hN0:N=2
        ·cases hE:nm.toList.isEmpty
         ·skip;have hf:Hid (Tr.zE _=false):=hval.trans (by rw [hes.out,kF];rw [zI7];exact kE (fun h=>zB1 hE h.2.1));have hn:((N:Int) == 2)=true:=kX.2 (by omega);have hE2:=hE;clear hE;go_wp2;go_ret;exact⟨by rw [hf.out];rfl,HBF⟩
         ·by_cases ho0:o<0
          ·skip;have hf:Hid (Tr.zE _=false):=hval.trans (by rw [hes.out,kF];rw [zI7];exact kE (fun h=>by omega));have hn:((N:Int) == 2)=true:=kX.2 (by omega);have hE2:=hE;clear hE;go_wp2;go_ret;exact⟨by rw [hf.out];rfl,HBF⟩
          ·have ho1:0<=o:=(by omega);have hf:Hid (Tr.zE _=decide (o<=12)):=hval.trans (by rw [hes.out,kF];rw [zI7];exact decide_eq_decide.2 ⟨fun h=>h.2.2.2,fun h=>⟨hN0,zCX hE,ho1,h⟩⟩);have hn:((N:Int) == 2)=true:=kX.2 (by omega);have hE2:=hE;clear hE ho0;go_wp2;go_ret;exact⟨by rw [hf.out];rfl,HBF⟩
        ·skip;have hf:Hid (Tr.zE _=false):=hval.trans (by rw [hes.out,kF];simp [Tr.okE,hN0]);have hn:((N:Int) == 2)=false:=kA.2 (by omega);clear hN0;go_wp2;go_ret;exact⟨by rw [hf.out];rfl,HBF⟩
       ·clear hb3;obtain rfl:i=0:=by omega
        obtain rfl:o=0:=by omega
        obtain rfl:at_=false:=by rcases hat with e|e;exact absurd e (by omega);exact e
        clear hb1 hb2 hat;have hf:Hid (Tr.zE _=false):=hval.trans (by rw [hes.out,kF];exact zLH hcs);have e0:(k == 0)=false:=kA.2 (by omega);have e1:(k == 1)=false:=kA.2 (by omega);have e2:(k == 2)=false:=kA.2 (by omega);have e3:(k == 3)=false:=kA.2 (by omega);have e4:(k == 4)=false:=kA.2 (by omega);have e5:(k == 5)=false:=kA.2 (by omega);have e6:(k == 6)=false:=kA.2 (by omega);have e7:(k == 7)=false:=kA.2 (by omega);have e8:(k == 8)=false:=kA.2 (by omega);have e9:(k == 9)=false:=kA.2 (by omega);have e10:(k == 10)=false:=kA.2 (by omega);have h10:(k != 0)=true:=by rw [bne_iff_ne];omega
        have h11:(k != 10)=true:=by rw [bne_iff_ne];omega
        have h12:(k != 5)=true:=by rw [bne_iff_ne];omega
        clear hcs;go_wp2;go_ret;exact⟨by rw [hf.out];rfl,HBF⟩
end Go.Proofs.YtcnmfcgmnkncaaaGreatDoor
namespace Go.Proofs.YtcnmfcgmnkncaaaGreatDoor
namespace Cw
open Go.RowKit Go.Maps Pw
def FV (x:Tr.E) (w:World) (r:Ending) (w':World):Prop:=∃a',r= .returned (zK x a')/\BdE x/\SlE w' a' x.args/\Below w.heap.size w w'
theorem FP.fv {x:Tr.E} {w w':World} {r:Ending} (h:FP x w r w'):FV x w r w':=by
 obtain⟨a,e,b,s,hb⟩:=h;exact⟨a,e,b,s.inc zBL,hb⟩
theorem zUD (e:Tr.E) (a:Value) (w:World) (hE:LexEnv w) (hw:Co.wE e<=900000) (hbd:BdE e) (hS:SlE w a e.args):Calls prog 16 #[zK e a] w (FV (Co.foldV e) w):=by
 obtain⟨k,o,i,nm,at_,l⟩:=e;have hS':SlE w a l:=hS;obtain⟨p,c,rfl,_⟩:=hS'.form;have KV:Hid (∀W,Below w.heap.size w W->Calls prog 40 #[zK (.mk k o i nm at_ l) (.slice p l.length c)] W fun r w'=>r= .returned (.bool (Tr.zE (.mk k o i nm at_ l)))/\Below W.heap.size W w'):=zh (fun W hb=>zE5 _ _ _ W (kL _) (hE.keep hb) hbd (hS.keep hb));have KF:Hid (Tr.zE (.mk k o i nm at_ l)=true->∀W,Below w.heap.size w W->Calls prog 41 #[zK (.mk k o i nm at_ l) (.slice p l.length c)] W (FP (Co.fold (.mk k o i nm at_ l)) W)):=zh (fun hv W hb=>zN9 _ _ _ W (kL _) hw hv hbd (hS.keep hb));have HBD:=zh hbd;have HS:=zh hS';have HFV:Hid (Co.foldV (.mk k o i nm at_ l)=if Tr.zE (.mk k o i nm at_ l) then Co.fold (.mk k o i nm at_ l) else .mk k o i nm at_ l):=zh rfl;rw [HFV.out];obtain⟨V,hV⟩:∃q,Tr.zE (.mk k o i nm at_ l)=q:=⟨_,rfl⟩;obtain⟨X,hX⟩:∃q,Co.fold (.mk k o i nm at_ l)=q:=⟨_,rfl⟩;rw [hV] at KV KF |-;rw [hX] at KF |-;unfold zK at KV KF |-;simp only [Tr.E.kind,Tr.E.op,Tr.E.int,Tr.E.name,Tr.E.at_] at KV KF |-;obtain⟨N,hN⟩:∃q,l.length=q:=⟨_,rfl⟩;rw [hN] at KV KF HS |-;have C0:=zh (My.start w);clear hbd hS hS' hw hE hV hX hN HFV;obtain⟨E,w1,HX1,HW1,hx1,C1⟩:=C0.boxE #[.int .i64 k,.int .i64 o,.int .i64 i,.string nm,.bool at_,.slice p N c] 37;obtain⟨R,w2,HX2,HW2,hx2,C2⟩:=C1.boxE #[.int .i64 0,.int .i64 0,.int .i64 0,.string ⟨#[]⟩,.bool false,.slice none 0 0] 37;have HY2:Hid (R=E+1):=zh (by rw [HX2.out,HW1.out,HX1.out];simp);go_in;go_upto_region 1 with fail;rw [<-HX1.out,<-HW1.out,<-HY2.out,<-HW2.out];clear HX1 HW1 C0 HY2 HX2 HW2 C1;have q1:=zF (C2.b 1 rfl);cases V with
 |false=>
  have KW:=zh (KV _ (My.fin C2.out));clear KV;go_wp2_with fail;refine KW.mono ?_;rintro e wv ⟨rfl,hb⟩;have CV:=zh (C2.below hb);clear hb KW C2 q1;have q1:=zF (CV.b 1 rfl);have q0:=zF (CV.b 0 rfl);go_wp2;exact My.retP CV (x:= .mk k o i nm at_ l) (a:= .slice p N c) 0 rfl results16 rfl rfl (fun W hW=>⟨_,rfl,HBD,HS.keep (My.fin hW),My.fin hW⟩)
 |true=>
  have KW:=zh (KV _ (My.fin C2.out));clear KV;go_wp2_with fail;refine KW.mono ?_;rintro e wv ⟨rfl,hb⟩;have CV:=zh (C2.below hb);clear hb KW C2 q1;have q1:=zF (CV.b 1 rfl);have K2:=zh (KF (by simp) _ (My.fin CV.out));clear KF;go_wp2_with fail;refine K2.mono ?_;rintro e w3 ⟨a9,rfl,hbx,hsx,hb⟩;have C3:=zh (Mz.add CV (r:=fun U=>SlE U a9 X.args) hb (fun _ _ hi hs=>SlE.inc hs hi) hsx);have HBX:=zh hbx;obtain⟨p9,c9,rfl,_⟩:=(C3.rd 0 rfl).form;obtain⟨YN,hYN⟩:∃q,X.args.length=q:=⟨_,rfl⟩;rw [hYN] at C3 |-;clear hb hbx hsx hYN CV K2;have q0:=zF (C3.b 0 rfl);unfold zK;go_wp2;exact My.retP C3 (x:=X) (a:= .slice p9 YN c9) 0 rfl results16 rfl rfl (fun W hW=>⟨_,rfl,HBX,hW.rd 0 rfl,My.fin hW⟩)
end Cw
end Go.Proofs.YtcnmfcgmnkncaaaGreatDoor
namespace Go.Proofs.YtcnmfcgmnkncaaaGreatDoor
def dig (k:Nat):UInt8:=UInt8.ofNat (48+k % 10)
def dec (n:Nat):List UInt8:=if _h:n<10 then [dig n] else dec (n / 10)++ [dig n]
termination_by n
decreasing_by omega
theorem zU7 {a b:BA} (h:¬a=b):¬a.toList=b.toList:=by
 intro e;rw [Lib.toList_data,Lib.toList_data] at e
 apply h
 cases a;cases b
 congr 1
 exact Array.toList_inj.1 e
theorem SlStr.get {w:World} {p:Option Addr} {n c:Nat} {l:List BA} (h:SlStr w (.slice p n c) l) {j:Nat} {s:BA} (hj:l[j]? =some s):
 ∃b o,p=some ⟨b,o,none⟩/\b<w.heap.size/\w.cell? ⟨b,o+j,none⟩=some (.string s):=by
 obtain⟨p',c',e,_,_,hx⟩:=h;cases e;obtain⟨_,b,o,h2,h3,h4⟩:=hx j s hj;exact⟨b,o,h2,h3,h4⟩
theorem zSS (x:Tr.E):x.deep=1+Tr.E.deep.deeps x.args:=by cases x;rw [Tr.E.deep];rfl
end Go.Proofs.YtcnmfcgmnkncaaaGreatDoor
namespace Go.Proofs.YtcnmfcgmnkncaaaGreatDoor
namespace Sy
open Tr
abbrev Bytes:=List UInt8
def opLevel (o:Int):Nat:=if o=12 then 1 else if o=11 then 2 else if o=0\/o=1 then 5 else if o=2\/o=3\/o=4 then 6 else 4
def sym (o:Int):Bytes:=
 if o=0 then [43] else if o=1 then [45] else if o=2 then [42] else if o=3 then [47] else if o=4 then [37]
 else if o=5 then [61,61] else if o=6 then [33,61] else if o=7 then [60] else if o=8 then [60,61] else if o=9 then [62] else if o=10 then [62,61]
 else if o=11 then [97,110,100] else [111,114]
def levelK (k o:Int) (a:Bool):Nat:=
 if k=10 then opLevel o else if k=9 then 3 else if k=8\/k=6\/k=7 then 7 else if k=5 then(if a then 7 else 9) else if k=4 then 8 else 9
def level:E->Nat
 | .mk k o _ _ a _=>levelK k o a
def par (req:Nat) (x:Nat × Bytes):Bytes:=if x.1<req then [40]++x.2++ [41] else x.2
def commas:List Bytes->Bytes
 | []=> []
 | [x]=>x
 |x::y::r=>x++ [44,32]++commas (y::r)
def node (k o i:Int) (nm:Bytes) (a:Bool) (ts:List (Nat × Bytes)):Bytes:=
 if k=0 then dec i.toNat
 else if k=1 then [110,105,108]
 else if k=2 then [116,104,105,115]
 else if k=3 then nm
 else if k=4 then par 8 (ts.headD (9,[]))++ [46]++nm
 else if k=5 then
  if a then [110,101,119,32]++nm++ [40]++commas (ts.dropLast.map Prod.snd)++ [41,32,97,116,32]++par 7 (ts.getLastD (9,[]))
  else [110,101,119,32]++nm++ [40]++commas (ts.map Prod.snd)++ [41]
 else if k=6 then [119,101,97,107,32]++par 7 (ts.headD (9,[]))
 else if k=7 then [103,101,116,32]++par 7 (ts.headD (9,[]))
 else if k=8 then [45]++par 7 (ts.headD (9,[]))
 else if k=9 then [110,111,116,32]++par 3 (ts.headD (9,[]))
 else par (if opLevel o=4 then 5 else opLevel o) (ts.headD (9,[]))++ [32]++sym o++ [32]++par (opLevel o+1) ((ts.drop 1).headD (9,[]))
mutual
def text:E->Bytes
 | .mk k o i nm a l=>node k o i nm.data.toList a (texts l)
def texts:List E->List (Nat × Bytes)
 | []=> []
 |e::r=>(level e,text e)::texts r
end
def ind (d:Nat):Bytes:=List.replicate (2*d) 32
def line (d:Nat) (s:Bytes):Bytes:=ind d++s++ [10]
def simple (k:Int) (nm:Bytes) (ts:List (Nat × Bytes)):Bytes:=
 if k=0 then [108,101,116,32]++nm++ [32,61,32]++(ts.headD (9,[])).2
 else if k=1 then nm++ [32,61,32]++(ts.headD (9,[])).2
 else if k=2 then par 9 (ts.headD (9,[]))++ [46]++nm++ [32,61,32]++((ts.drop 1).headD (9,[])).2
 else if k=5 then [115,101,110,100,32]++par 8 (ts.headD (9,[]))++ [46]++nm++ [40]++commas ((ts.drop 1).map Prod.snd)++ [41]
 else if k=6 then [112,114,105,110,116,32]++(ts.headD (9,[])).2
 else if k=7 then [109,111,118,101,32]++(ts.headD (9,[])).2++ [32,116,111,32]++((ts.drop 1).headD (9,[])).2
 else if k=8 then [119,97,116,99,104,32]++(ts.headD (9,[])).2++ [32,98,121,32]++nm++ [40]++((ts.drop 1).headD (9,[])).2++ [41]
 else [114,101,116,117,114,110]
def stmtT (d:Nat) (k:Int) (nm:Bytes) (ts:List (Nat × Bytes)) (body els:Bytes) (other:Bool):Bytes:=
 if k=3 then line d ([105,102,32]++(ts.headD (9,[])).2++ [32,123])++body++(if other then line d [125,32,101,108,115,101,32,123]++els else [])++line d [125]
 else if k=4 then line d ([119,104,105,108,101,32]++(ts.headD (9,[])).2++ [32,123])++body++line d [125]
 else line d (simple k nm ts++ [59])
mutual
def stmt:Nat->S->Bytes
 |d,.mk k nm x b l=>stmtT d k nm.data.toList (texts x) (stmts (d+1) b) (stmts (d+1) l) (decide (0<l.length))
def stmts:Nat->List S->Bytes
 |_,[]=> []
 |d,s::r=>stmt d s++stmts d r
end
mutual
def sizeE:E->Nat
 | .mk _ _ _ _ _ l=>1+sizeEs l
def sizeEs:List E->Nat
 | []=>0
 |e::r=>sizeE e+sizeEs r
end
mutual
def sizeS:S->Nat
 | .mk _ _ x b l=>1+sizeEs x+sizeSs b+sizeSs l
def sizeSs:List S->Nat
 | []=>0
 |s::r=>sizeS s+sizeSs r
end
def sizeM (m:M):Nat:=1+m.params.length+sizeSs m.body
def sizeC (c:C):Nat:=1+c.fields.length+(c.methods.map sizeM).sum
def sizeP (l:List C):Nat:=(l.map sizeC).sum
mutual
def sameE:E->E->Bool
 | .mk k o i nm a l,.mk k' o' i' nm' a' l'=>decide (k=k') && decide (o=o') && decide (i=i') && decide (nm=nm') && decide (a=a') && sameEs l l'
def sameEs:List E->List E->Bool
 | [],[]=>true
 |e::r,e'::r'=>sameE e e' && sameEs r r'
 | [],_ ::_=>false
 |_ ::_,[]=>false
end
mutual
theorem zFH:∀a b:E,sameE a b=true↔a=b
 | .mk k o i nm a l,.mk k' o' i' nm' a' l'=>by
   rw [sameE];simp only [kW,decide_eq_true_eq,zC6 l l',E.mk.injEq,and_assoc]
theorem zC6:∀a b:List E,sameEs a b=true↔a=b
 | [],[]=>by simp [sameEs]
 |e::r,e'::r'=>by rw [sameEs,kW,zFH e e',zC6 r r',List.cons.injEq]
 | [],_ ::_=>by simp [sameEs]
 |_ ::_,[]=>by simp [sameEs]
end
end Sy
end Go.Proofs.YtcnmfcgmnkncaaaGreatDoor
namespace Go.Proofs.YtcnmfcgmnkncaaaGreatDoor
open Go.RowKit Go.Maps
theorem zQB {α:Type} {l1 l2:List α} {j:Nat} {x:α} (h:l1.take j=l2.take j) (h1:l1[j]? =some x) (h2:l2[j]? =some x):l1.take (j+1)=l2.take (j+1):=by
 rw [List.take_add_one,List.take_add_one,h,h1,h2]
def ReqEC (d:Nat):Prop:=∀(x y:Tr.E) (v1 v2:Value) (W:World),x.deep<=d->SlE W v1 x.args->SlE W v2 y.args->
 Calls prog 17 #[zK x v1,zK y v2] W fun r w'=>r= .returned (.bool (Sy.sameE x y))/\Below W.heap.size W w'
theorem zLC {d:Nat} (hC:ReqEC d) (l1 l2:List Tr.E) (p1:Option Addr) (N1 c1:Nat) (p2:Option Addr) (N2 c2:Nat) (w:World) (hd:Tr.E.deep.deeps l1<=d) (hN1:l1.length=N1) (hN2:l2.length=N2) (h1:SlE w (.slice p1 N1 c1) l1) (h2:SlE w (.slice p2 N2 c2) l2):
 Calls prog 42 #[.slice p1 N1 c1,.slice p2 N2 c2] w fun r w'=>r= .returned (.bool (Sy.sameEs l1 l2))/\Below w.heap.size w w':=by
 have hn1:N1<=9223372036854775807:=by
  have:=h1.len;rw [hN1] at this;unfold maxLen at this;exact this
 have hn2:N2<=9223372036854775807:=by
  have:=h2.len;rw [hN2] at this;unfold maxLen at this;exact this
 have HC:=zh hC;have HD:=zh hd;have HN1:=zh hN1;have HN2:=zh hN2;have H1:=zh h1;have H2:=zh h2;clear hC hd hN1 hN2 h1 h2;by_cases hne:N1=N2
 ·subst hne;go_in;go_wp2
  go_loopg [5] N1 (fun g s17 wr=>∃j:Nat,s17= .int .i64 j/\j<=N1/\g=N1 -j/\Hid (l1.take j=l2.take j)/\Hid (Below w.heap.size w wr))
  case atStart=>exact ⟨0,rfl,kO _,rfl,rfl,Below.refl _ _⟩
  case round=>
   obtain⟨j,rfl,hj,rfl,HT,HB⟩:=hrel;by_cases hlt:j<N1
   ·obtain⟨x,hx⟩:∃x,l1[j]? =some x:=⟨_,kB (by rw [HN1.out];exact hlt)⟩;obtain⟨y,hy⟩:∃x,l2[j]? =some x:=⟨_,kB (by rw [HN2.out];exact hlt)⟩;obtain⟨b1,o1,a1,rfl,_,hc1,_,hsl1⟩:=H1.get hx;obtain⟨b2,o2,a2,rfl,_,hc2,_,hsl2⟩:=H2.get hy;obtain⟨q1,k1,rfl,_⟩:=hsl1.form;obtain⟨q2,k2,rfl,_⟩:=hsl2.form;obtain⟨A1,hA1⟩:∃q,x.args.length=q:=⟨_,rfl⟩;obtain⟨A2,hA2⟩:∃q,y.args.length=q:=⟨_,rfl⟩;rw [hA1] at hsl1 hc1;rw [hA2] at hsl2 hc2;clear hA1 hA2;obtain⟨x0,x1,x2,x3,x4,x5⟩:=hc1.keep HB;obtain⟨y0,y1,y2,y3,y4,y5⟩:=hc2.keep HB;have hb5:Below w.heap.size w wr.drew:=HB.drew;have hcall:=HC x y _ _ wr.drew (kG (Tr.E.deeps_get l1 j x hx) HD) (hsl1.keep hb5) (hsl2.keep hb5);unfold zK at hcall;have HB5:=zh hb5;have HX:=zh hx;have HY:=zh hy;have b3:(j:Int)<(N1:Int):=(by omega);have b5:(0:Int)<=(j:Int):=(by omega);have hl1:=zAR x0;have hl2:=zAR y0;obtain⟨S,hSx⟩:∃q,Sy.sameE x y=q:=⟨_,rfl⟩;rw [hSx] at hcall;have HSX:=zh hSx;have HCALL:=zh hcall;clear hx hy hc1 hc2 hsl1 hsl2 hb5 hcall hSx;cases S
    ·go_wp2_with fail
     go_still_tail 8,(by kernel_rfl)
     change wpList _ _ _ _ _ wr.drew;obtain⟨w5,hw5⟩:∃q,q=wr.drew:=⟨_,rfl⟩;rw [<-hw5] at HCALL HB5 |-;clear hw5 x0 x1 x2 x3 x4 x5 y0 y1 y2 y3 y4 y5 hl1 hl2;go_wp2_with fail;refine HCALL.mono ?_;rintro e' w6 ⟨rfl,hb6⟩;have HB6:=zh (HB5.trans (hb6.mono HB5.size));clear hb6;go_wp2;go_ret;refine⟨?_,HB6⟩;rw [show Sy.sameEs l1 l2=false by
      rw [Bool.eq_false_iff];intro h;rw [Sy.zC6] at h;have h3:=HX.out;rw [h,HY.out] at h3;have h4:=HSX.out;rw [Option.some.inj h3,(Sy.zFH x x).2 rfl] at h4;cases h4]
     rfl
    ·go_wp2_with fail
     go_still_tail 8,(by kernel_rfl)
     change wpList _ _ _ _ _ wr.drew;obtain⟨w5,hw5⟩:∃q,q=wr.drew:=⟨_,rfl⟩;rw [<-hw5] at HCALL HB5 |-;clear hw5 x0 x1 x2 x3 x4 x5 y0 y1 y2 y3 y4 y5 hl1 hl2;go_wp2_with fail;refine HCALL.mono ?_;rintro e' w6 ⟨rfl,hb6⟩;have HB6:=zh (HB5.trans (hb6.mono HB5.size));clear hb6;go_wp2;go_roundg (N1 -(j+1))
     case measure=>omega
     case rel=>exact ⟨j+1,by go_num,by omega,rfl,zQB HT HX (by rw [HY.out,(Sy.zFH x y).1 HSX.out]),HB6⟩
   ·obtain rfl:j=N1:=by omega
    go_wp2;go_ret;refine⟨?_,HB⟩;rw [(Sy.zC6 l1 l2).2 (by have h:=HT.out;rw [kR (by rw [HN1.out];exact kL _),kR (by rw [HN2.out];exact kL _)] at h;exact h)]
    rfl
 ·have hf:Sy.sameEs l1 l2=false:=by
   rw [Bool.eq_false_iff];intro h;rw [Sy.zC6] at h;exact hne (by rw [<-HN1.out,<-HN2.out,h])
  rw [hf];clear hf;have hne2:¬(N1:Int)=(N2:Int):=(by omega);go_in;go_wp2;go_ret;exact⟨rfl,Below.refl _ _⟩
theorem zHO:∀d:Nat,ReqEC d:=by
 intro d
 induction d with
 |zero=>intro x y v1 v2 W hd;have:=x.deep_pos;omega
 |succ d ih=>
  intro x y v1 v2 w hd h1 h2;have hde:=zSS x;obtain⟨k,o,i,nm,a,l⟩:=x;obtain⟨k',o',i',nm',a',l'⟩:=y;have h1:SlE w v1 l:=h1;have h2:SlE w v2 l':=h2;have hde:(Tr.E.mk k o i nm a l).deep=1+Tr.E.deep.deeps l:=hde;obtain⟨p1,c1,rfl,_⟩:=h1.form;obtain⟨p2,c2,rfl,_⟩:=h2.form;obtain⟨N1,hN1⟩:∃q,l.length=q:=⟨_,rfl⟩;obtain⟨N2,hN2⟩:∃q,l'.length=q:=⟨_,rfl⟩;rw [hN1] at h1 |-;rw [hN2] at h2 |-;have hb1:=zD w (.cells #[.int .i64 k,.int .i64 o,.int .i64 i,.string nm,.bool a,.slice p1 N1 c1] 37);have hb2:=hb1.alloc hb1.size (.cells #[.int .i64 k',.int .i64 o',.int .i64 i',.string nm',.bool a',.slice p2 N2 c2] 37);obtain⟨w2,hw2⟩:∃q,q=(w.alloc (.cells #[.int .i64 k,.int .i64 o,.int .i64 i,.string nm,.bool a,.slice p1 N1 c1] 37)).alloc (.cells #[.int .i64 k',.int .i64 o',.int .i64 i',.string nm',.bool a',.slice p2 N2 c2] 37):=⟨_,rfl⟩;have HB2:Hid (Below w.heap.size w w2):=by rw [hw2];exact hb2
  have hcall:=zLC ih l l' p1 N1 c1 p2 N2 c2 w2 (by omega) hN1 hN2 (h1.keep HB2) (h2.keep HB2);have HCALL:=zh hcall;have HW2:=zh hw2;unfold zK;simp only [Tr.E.kind,Tr.E.op,Tr.E.int,Tr.E.name,Tr.E.at_];clear hde h1 h2 hN1 hN2 hb1 hb2 hw2 hcall hd ih;by_cases hk:k=k'
  ·subst hk;by_cases ho:o=o'
   ·subst ho;by_cases hi:i=i'
    ·subst hi;by_cases hn:nm=nm'
     ·subst hn;by_cases ha:a=a'
      ·subst ha;go_in;go_wp2_with fail;rw [<-HW2.out];refine HCALL.mono ?_;rintro e' w3 ⟨rfl,hb3⟩;have HB3:=zh (HB2.trans (hb3.mono HB2.size));clear hb3 HW2;go_wp2;go_ret;exact⟨by rw [Sy.sameE];simp,HB3⟩
      ·have hf:Sy.sameE (.mk k o i nm a l) (.mk k o i nm a' l')=false:=by rw [Sy.sameE];simp [ha]
       rw [hf];clear hf;go_in;go_wp2_with fail;rw [<-HW2.out];go_ret;exact⟨rfl,HB2⟩
     ·have hf:Sy.sameE (.mk k o i nm a l) (.mk k o i nm' a' l')=false:=by rw [Sy.sameE];simp [hn]
      have hn2:=zU7 hn;rw [hf];clear hf;go_in;go_wp2_with fail;rw [<-HW2.out];go_ret;exact⟨rfl,HB2⟩
    ·have hf:Sy.sameE (.mk k o i nm a l) (.mk k o i' nm' a' l')=false:=by rw [Sy.sameE];simp [hi]
     rw [hf];clear hf;go_in;go_wp2_with fail;rw [<-HW2.out];go_ret;exact⟨rfl,HB2⟩
   ·have hf:Sy.sameE (.mk k o i nm a l) (.mk k o' i' nm' a' l')=false:=by rw [Sy.sameE];simp [ho]
    rw [hf];clear hf;go_in;go_wp2_with fail;rw [<-HW2.out];go_ret;exact⟨rfl,HB2⟩
  ·have hf:Sy.sameE (.mk k o i nm a l) (.mk k' o' i' nm' a' l')=false:=by rw [Sy.sameE];simp [hk]
   rw [hf];clear hf;go_in;go_wp2_with fail;rw [<-HW2.out];go_ret;exact⟨rfl,HB2⟩
end Go.Proofs.YtcnmfcgmnkncaaaGreatDoor
