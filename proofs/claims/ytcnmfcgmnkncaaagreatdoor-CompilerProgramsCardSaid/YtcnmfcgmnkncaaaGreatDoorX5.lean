/-
  LexProgA, LexKw, ShelfB, LexProgB, LexProgC, LexProgD, LexNum, LexProgE.
-/
import Derived.Test.YtcnmfcgmnkncaaaGreatDoorX4
import Derived.Shelf.Strings.SlTrimAscii
import Derived.Shelf.Spec.SearchS
import Derived.Lib.ParseIntB
set_option maxRecDepth 100000
set_option maxHeartbeats 40000000
open Go.Proofs.Tryz
namespace Go.Proofs.YtcnmfcgmnkncaaaGreatDoor
open Go.RowKit
theorem setZero (w:World):(zeroValue 249).run prog w= .ok (.agg (Array.replicate 256 (.bool false))) w:=by kernel_rfl
theorem zGK (s cs:BA) (w:World) (h2:2<=cs.size) (hcs:cs.size<4294967281) (hascii:∀(j:Nat) b,cs.data.toList[j]? =some b->b.toNat<128):
 Calls prog 193 #[.string s,.string cs] w fun e w'=>e= .returned (.string ⟨(s.data.toList.dropWhile (cs.data.toList.contains ·)).toArray⟩)/\Below w.heap.size w w':=by
 by_cases h0:0<s.size
 ·refine(Any.strings_TrimLeft_set Tryz.lays161 setZero (by kernel_rfl) s cs w h2 h0 hcs hascii).mono ?_;rintro e w' ⟨rfl,rfl⟩;exact⟨rfl,((Below.refl _ _).alloc (kL _) _).alloc (by simp) _⟩
 ·refine(Any.strings_TrimLeft_empty Tryz.lays161 s cs w (.inl (by omega))).mono ?_;rintro e w' ⟨rfl,rfl⟩;have h:s.data.toList= []:=List.eq_nil_of_length_eq_zero (by rw [<-Lib.size_eq];omega);refine⟨?_,Below.refl _ _⟩;rw [h];have:s=⟨#[]⟩:=by rw [<-Lib.mk_data s,h]
  rw [this];rfl
theorem zQV {a b:BA} (h:a=b):Ending.returned (.string a)= .returned (.string b):=by rw [h]
theorem zEL {a b:BA} (h:a.data.toList=b.data.toList):a=b:=by rw [<-Lib.mk_data a,<-Lib.mk_data b,h]
theorem zIH {α:Type} (p:α->Bool) (l:List α):l.take (l.length -(l.dropWhile p).length)=l.takeWhile p:=by
 have h:=List.takeWhile_append_dropWhile (p:=p) (l:=l);have hl:l.length=(l.takeWhile p).length+(l.dropWhile p).length:=by rw [<-kN,h]
 rw [hl,Nat.add_sub_cancel];exact zEP p l
theorem zGS {α:Type} (p:α->Bool) (l:List α):(l.dropWhile p).length<=l.length:=(List.dropWhile_sublist p).length_le
theorem zU4 (s cs:BA) (w:World) (hs:s.size<=9223372036854775807) (h2:2<=cs.size) (hcs:cs.size<4294967281) (hascii:∀(j:Nat) b,cs.data.toList[j]? =some b->b.toNat<128):
 Calls prog 201 #[.string s,.string cs] w fun e w'=>e= .returned (.string ⟨(s.data.toList.takeWhile (cs.data.toList.contains ·)).toArray⟩)/\Below w.heap.size w w':=by
 obtain⟨D,hD⟩:∃D,s.data.toList.dropWhile (cs.data.toList.contains ·)=D:=⟨_,rfl⟩;have hle:=zGS (cs.data.toList.contains ·) s.data.toList;have htk:=zIH (cs.data.toList.contains ·) s.data.toList;have hT:=zGK s cs w h2 hcs hascii;rw [hD,<-Lib.size_eq] at hle htk;rw [hD] at hT;have HT:=zh hT;have HK:=zh htk;clear hD hT htk hascii;go_in;go_wp2_with (go_at_call 193;refine HT.mono ?_;rintro e w' ⟨rfl,hb⟩);go_ret;refine⟨zQV (zEL ?_),hb⟩;rw [<-HK.out,Lib.extract_data];simp
theorem zLT (l:List UInt8) (c:UInt8):Lib.indexByte l c<l.length:=by
 induction l with
 |nil=>simp [Lib.indexByte]
 |cons b l ih=>
  unfold Lib.indexByte;rw [kI]
  split
  ·omega
  ·split<;>omega
theorem zD0:∀l:List UInt8,Lex.skip true l=if Lib.indexByte l 10= -1 then [] else Lex.skip false (l.drop (Lib.indexByte l 10).toNat)
 | []=>by simp [Lex.skip,Lib.indexByte]
 |c::r=>by
  rw [skip_t];have ih:=zD0 r;have hge:=Lib.indexByte_ge r 10;by_cases h:c=10
  ·subst h;rw [kD (by rfl)];have:Lib.indexByte (10::r) 10=0:=by simp [Lib.indexByte]
   rw [this,kC (by omega),Int.toNat_zero,List.drop_zero,zNP,kD (by rfl)]
  ·have hc:¬c.toNat=10:=fun e=>h (UInt8.toNat_inj.1 e)
   rw [kC hc,ih];by_cases h2:Lib.indexByte r 10= -1
   ·have:Lib.indexByte (c::r) 10= -1:=by simp [Lib.indexByte,h,h2]
    rw [kD h2,kD this]
   ·have:Lib.indexByte (c::r) 10=Lib.indexByte r 10+1:=by simp [Lib.indexByte,h,h2]
    rw [kC h2,this,kC (by omega),show(Lib.indexByte r 10+1).toNat=(Lib.indexByte r 10).toNat+1 by omega,List.drop_succ_cons]
theorem zDZ (c:UInt8):([32,9,10,13]:List UInt8).contains c=Lex.space c:=by
 rw [Bool.eq_iff_iff,zQG,List.contains_iff_mem];simp only [kV,List.not_mem_nil,or_false,<-UInt8.toNat_inj]
 rfl
theorem zEQ:∀l:List UInt8,Lex.skip false l=Lex.skip false (l.dropWhile (([32,9,10,13]:List UInt8).contains ·))
 | []=>rfl
 |c::r=>by
  rw [List.dropWhile_cons,zDZ];by_cases h:Lex.space c=true
  ·rw [kD h,zNP,kD h];exact zEQ r
  ·rw [kC h]
def strLen:Value->Nat| .string x=>x.size|_=>0
theorem zIR {α:Type} {p:α->Bool} {l:List α} {a:α} {r:List α} (h:l.dropWhile p=a::r):p a=false:=by
 induction l with
 |nil=>cases h
 |cons b l ih=>
  rw [List.dropWhile_cons] at h;by_cases hb:p b=true
  ·rw [kD hb] at h;exact ih h
  ·rw [kC hb] at h;cases h;simpa using hb
theorem zQM (l:List UInt8) (y:List UInt8) (hy:l.dropWhile (([32,9,10,13]:List UInt8).contains ·)=y):
 (Lib.hasPrefix y [35]=false/\Lex.skip false l=y)\/
 (Lib.hasPrefix y [35]=true/\1<=y.length/\((Lib.indexByte y 10= -1/\Lex.skip false l= [])\/(1<=Lib.indexByte y 10/\Lib.indexByte y 10<y.length/\Lex.skip false l=Lex.skip false (y.drop (Lib.indexByte y 10).toNat)))):=by
 have h0:=zEQ l;rw [hy] at h0;rw [h0];cases y with
 |nil=>exact .inl ⟨rfl,rfl⟩
 |cons c r=>
  have hns:Lex.space c=false:=by
   have:=zIR hy
   rwa [zDZ] at this
  by_cases h:c=35
  ·subst h;refine .inr ⟨by simp [Lib.hasPrefix],by simp,?_⟩;rw [zNP,hns,kC (by simp),kD (by rfl),zD0 r];have hge:=Lib.indexByte_ge r 10;by_cases h2:Lib.indexByte r 10= -1
   ·have:Lib.indexByte (35::r) 10= -1:=by simp [Lib.indexByte,h2]
    exact .inl ⟨this,by rw [kD h2]⟩
   ·have:Lib.indexByte (35::r) 10=Lib.indexByte r 10+1:=by simp [Lib.indexByte,h2]
    refine .inr ⟨by omega,?_,?_⟩
    ·have hlt:=zLT r 10;rw [this,kI];omega
    ·rw [kC h2,this,show(Lib.indexByte r 10+1).toNat=(Lib.indexByte r 10).toNat+1 by omega,List.drop_succ_cons]
  ·refine .inl ⟨by simp only [Lib.hasPrefix,List.isPrefixOf,Bool.and_eq_false_iff];exact .inl (kA.2 fun e=>h e.symm),?_⟩;have h35:¬c.toNat=35:=fun e=>h (UInt8.toNat_inj.1 e)
   rw [zNP,hns,kC (by simp),kC h35]
def spcs:BA:=⟨#[32,9,10,13]⟩
theorem zOV (j:Nat) (b:UInt8) (h:spcs.data.toList[j]? =some b):b.toNat<128:=by
 have:=kM h;simp [spcs] at this;rcases this with rfl|rfl|rfl|rfl<;>decide
theorem zGY (s:BA) (w:World):
 Calls prog 175 #[.string s] w fun e w'=>e= .returned (.string ⟨(Lex.skip false s.data.toList).toArray⟩)/\Below w.heap.size w w':=by
 go_in;go_wp2
 go_loopw [0] (fun v wr=>∃x:BA,v= .string x/\x.size<=s.size/\Lex.skip false s.data.toList=Lex.skip false x.data.toList/\Below w.heap.size w wr) (fun v _=>strLen v)
 case atStart=>exact ⟨s,rfl,kL _,rfl,Below.refl _ _⟩
 case round=>
  obtain⟨x,rfl,hxs,hsk,hbel⟩:=hrel;have HSK:=zh hsk;clear hsk;obtain⟨Y,hY⟩:∃Y,x.data.toList.dropWhile (([32,9,10,13]:List UInt8).contains ·)=Y:=⟨_,rfl⟩;have hT:∀w0,Calls prog 193 #[.string x,.string ⟨#[32,9,10,13]⟩] w0 fun e w'=>e= .returned (.string ⟨Y.toArray⟩)/\Below w0.heap.size w0 w':=by
   intro w0;have h:=zGK x spcs w0 (by decide) (by decide) zOV;rw [<-hY];exact h
  have hle:=zGS (([32,9,10,13]:List UInt8).contains ·) x.data.toList;rw [hY,<-Lib.size_eq] at hle;have hst:=zQM _ Y hY;have HT:=zh hT;clear hT hY;have hsz:=hbel.size;rcases hst with ⟨h1,h2⟩|⟨h1,h2,h3⟩
  ·have hP:∀w0,Calls prog 194 #[.string ⟨Y.toArray⟩,.string ⟨#[35]⟩] w0 fun e w'=>e= .returned (.bool false)/\w'=w0:=by
    intro w0;have h:=Tryz.strings_HasPrefix ⟨Y.toArray⟩ ⟨#[35]⟩ w0;simp only [h1] at h;exact h
   have HP:=zh hP;have H2:=zh h2;clear hP h1 h2;go_wp2_with (first|(go_at_call 193;refine(HT _).mono ?_;rintro e w1 ⟨rfl,hb⟩)|(go_at_call 194;refine(HP _).mono ?_;rintro e w' ⟨rfl,rfl⟩));go_ret;exact⟨zQV (by rw [HSK.out,H2.out]),hbel.trans (hb.mono (by omega))⟩
  ·have hP:∀w0,Calls prog 194 #[.string ⟨Y.toArray⟩,.string ⟨#[35]⟩] w0 fun e w'=>e= .returned (.bool true)/\w'=w0:=by
    intro w0;have h:=Tryz.strings_HasPrefix ⟨Y.toArray⟩ ⟨#[35]⟩ w0;simp only [h1] at h;exact h
   have HP:=zh hP;have hY2:(⟨Y.toArray⟩:BA).size=Y.length:=by rw [Lib.size_eq]
   have HY2:=zh hY2;clear hP h1 hY2;rcases h3 with ⟨h4,h5⟩|⟨h4,h5,h6⟩
   ·have hI:∀w0,Calls prog 195 #[.string ⟨Y.toArray⟩,.int .u8 10] w0 fun e w'=>e= .returned (.int .i64 (-1))/\w'=w0:=by
     intro w0;have h:=Tryz.strings_IndexByte ⟨Y.toArray⟩ 10 w0;rw [<-h4];exact h
    have HI:=zh hI;have H5:=zh h5;clear hI h4 h5;go_wp2_with (first|(go_at_call 193;refine(HT _).mono ?_;rintro e w1 ⟨rfl,hb⟩)|(go_at_call 194;refine(HP _).mono ?_;rintro e w' ⟨rfl,rfl⟩)|(go_at_call 195;refine(HI _).mono ?_;rintro e w' ⟨rfl,rfl⟩));go_roundw
    case rel=>exact ⟨⟨#[]⟩,rfl,kO _,by rw [HSK.out,H5.out];rfl,hbel.trans (hb.mono (by omega))⟩
    case measure=>show (⟨#[]⟩:BA).size<x.size;rw [show (⟨#[]⟩:BA).size=0 from rfl];omega
   ·obtain⟨n,hn⟩:=Int.eq_ofNat_of_zero_le (show 0<=Lib.indexByte Y 10 by omega);rw [hn] at h4 h5 h6;rw [Int.toNat_natCast] at h6;have hI:∀w0,Calls prog 195 #[.string ⟨Y.toArray⟩,.int .u8 10] w0 fun e w'=>e= .returned (.int .i64 n)/\w'=w0:=by
     intro w0;have h:=Tryz.strings_IndexByte ⟨Y.toArray⟩ 10 w0;rw [<-hn];exact h
    have HI:=zh hI;have H6:=zh h6;clear hI h6 hn;go_wp2_with (first|(go_at_call 193;refine(HT _).mono ?_;rintro e w1 ⟨rfl,hb⟩)|(go_at_call 194;refine(HP _).mono ?_;rintro e w' ⟨rfl,rfl⟩)|(go_at_call 195;refine(HI _).mono ?_;rintro e w' ⟨rfl,rfl⟩));have hx:((⟨Y.toArray⟩:BA).extract n Y.length)=⟨(Y.drop n).toArray⟩:=by
     apply zEL
     rw [Lib.extract_data]
     show(Y.drop n).take _=Y.drop n
     exact kR (by rw [List.length_drop];omega)
    have hy:(⟨(Y.drop n).toArray⟩:BA).size=Y.length -n:=by rw [Lib.size_eq];simp
    rw [hx];go_roundw
    case rel=>exact ⟨_,rfl,by rw [hy];omega,by rw [HSK.out,H6.out],hbel.trans (hb.mono (by omega))⟩
    case measure=>show (⟨(Y.drop n).toArray⟩:BA).size<x.size;rw [hy];omega
end Go.Proofs.YtcnmfcgmnkncaaaGreatDoor
namespace Go.Proofs.YtcnmfcgmnkncaaaGreatDoor
theorem zOG:∀a b c:List UInt8,Op.bytesLess a b=true->Op.bytesLess b c=true->Op.bytesLess a c=true
 |_,[],_,h,_=>by simp [Op.bytesLess] at h
 |_,_ ::_,[],_,h=>by simp [Op.bytesLess] at h
 | [],_ ::_,_ ::_,_,_=>by simp [Op.bytesLess]
 |x::a,y::b,z::c,h1,h2=>by
  simp only [Op.bytesLess,Bool.or_eq_true,kW,decide_eq_true_eq,kX] at h1 h2 |-;rcases h1 with h1|⟨rfl,h1⟩
  ·rcases h2 with h2|⟨rfl,_⟩
   ·exact .inl (UInt8.lt_trans h1 h2)
   ·exact .inl h1
  ·rcases h2 with h2|⟨rfl,h2⟩
   ·exact .inl h2
   ·exact .inr ⟨rfl,zOG a b c h1 h2⟩
theorem zMB:∀a:List UInt8,Op.bytesLess a a=false
 | []=>rfl
 |x::a=>by
  simp only [Op.bytesLess,Bool.or_eq_false_iff,decide_eq_false_iff_not,Bool.and_eq_false_iff];exact⟨UInt8.lt_irrefl x,.inr (zMB a)⟩
theorem zSG (less:Nat->Bool) (n:Nat) (hm:∀a b,a<=b->b<n->less b=true->less a=true):∀f lo hi,hi -lo<=f->lo<=hi->hi<=n->
 (∀t,t<lo->less t=true)->(∀t,hi<=t->t<n->less t=false)->
 Lib.bsGo less f lo hi<=n/\(∀t,t<Lib.bsGo less f lo hi->less t=true)/\(∀t,Lib.bsGo less f lo hi<=t->t<n->less t=false)
 |0,lo,hi,hf,h1,h2,h3,h4=>by
  have e:lo=hi:=(by omega);subst e;exact⟨h2,h3,h4⟩
 |f+1,lo,hi,hf,h1,h2,h3,h4=>by
  unfold Lib.bsGo;by_cases h:lo<hi
  ·rw [kD h];cases hl:less ((lo+hi) / 2)
   ·rw [kC (by simp)];refine zSG less n hm f lo _ (by omega) (by omega) (by omega) h3 fun t ht htn=>?_
    cases hx:less t
    ·rfl
    ·rw [hm _ t ht htn hx] at hl;cases hl
   ·rw [kD rfl];refine zSG less n hm f _ hi (by omega) (by omega) h2 (fun t ht=>hm t _ (by omega) (by omega) hl) h4
  ·rw [kC h];have e:lo=hi:=(by omega);subst e;exact⟨h2,h3,h4⟩
theorem zT7 (ls:List (List UInt8)) (hs:∀a b,a<b->b<ls.length->Op.bytesLess (ls.getD a []) (ls.getD b [])=true) (x:List UInt8) (I:Nat)
 (hI:I=Lib.bsGo (fun t=>Op.bytesLess (ls.getD t []) x) ls.length 0 ls.length):decide (I<ls.length/\ls.getD I []=x)=ls.contains x:=by
 have hmono:∀a b,a<=b->b<ls.length->(fun t=>Op.bytesLess (ls.getD t []) x) b=true->(fun t=>Op.bytesLess (ls.getD t []) x) a=true:=by
  intro a b hab hb h;by_cases e:a=b
  ·subst e;exact h
  ·exact zOG _ _ _ (hs a b (by omega) hb) h
 obtain⟨i1,i2,i3⟩:=zSG _ ls.length hmono ls.length 0 ls.length (by omega) (by omega) (kL _) (fun t ht=>by omega) (fun t h1 h2=>by omega);rw [<-hI] at i1 i2 i3;rw [Bool.eq_iff_iff,decide_eq_true_eq,List.contains_iff_mem]
 constructor
 ·rintro ⟨h1,h2⟩;rw [<-h2,List.getD_eq_getElem?_getD,kB h1];exact List.getElem_mem h1
 ·intro h;obtain⟨k,hk,he⟩:=List.getElem_of_mem h;have hek:ls.getD k []=x:=by rw [List.getD_eq_getElem?_getD,kB hk];exact he
  have hIk:I<=k:=by
   apply Nat.le_of_not_lt
   intro hlt;have:=i2 k hlt;simp only [hek,zMB] at this;cases this
  have hlt:I<ls.length:=(by omega);refine⟨hlt,?_⟩;by_cases e:I=k
  ·rw [e];exact hek
  ·have h5:=hs I k (by omega) hk;rw [hek] at h5;have h6:=i3 I (kL _) hlt;simp only [h5] at h6;cases h6
theorem zRC:∀a b,a<b->b<Lex.zAH.length->Op.bytesLess (Lex.zAH.getD a []) (Lex.zAH.getD b [])=true:=by
 intro a b hab hb;have h:∀b,b<24->∀a,a<b->Op.bytesLess (Lex.zAH.getD a []) (Lex.zAH.getD b [])=true:=by decide+kernel
 exact h b hb a hab
end Go.Proofs.YtcnmfcgmnkncaaaGreatDoor
namespace Go.Proofs
open Go.Shelf
def Tryz.laysNm226_ren:Go.Shelf.Ren:=⟨fun|26=>215|33=>226|34=>227|38=>236|n=>n,fun|24=>49|9=>9|3=>3|4=>4|40=>204|0=>0|n=>n,fun|n=>n⟩
theorem Tryz.laysNm226:Go.Proofs.Lays2.n26 prog Tryz.laysNm226_ren:= {
 mixed:=by kernel_rfl
 f26:=func215.trans (congrArg some (by kernel_rfl))
 f33:=func226.trans (congrArg some (by kernel_rfl))
 f34:=func227.trans (congrArg some (by kernel_rfl))
 f38:=func236.trans (congrArg some (by kernel_rfl))
 t0:=underlying0
 a0:=isAgg0
 z0:=sizeOf0
 v0:=zeroValue0
 t3:=underlying3
 a3:=isAgg3
 z3:=sizeOf3
 v3:=zeroValue3
 t4:=underlying4
 a4:=isAgg4
 z4:=sizeOf4
 v4:=zeroValue4
 t9:=underlying9
 a9:=isAgg9
 z9:=sizeOf9
 v9:=zeroValue9
 t24:=underlying49
 a24:=isAgg49
 z24:=sizeOf49
 v24:=zeroValue49
 t40:=underlying204
 a40:=isAgg204
 z40:=sizeOf204
 v40:=zeroValue204 }
theorem Tryz.slices_BinarySearch_string (b off n c:Nat) (Sx:Nat->ByteArray) (x:ByteArray) (w:World) (hbig:n<4611686018427387904) (hc:∀j,j<n->w.cell? ⟨b,off+j,none⟩=some (.string (Sx j))):
 Calls prog 215 #[.slice (some ⟨b,off,none⟩) n c,.string x] w fun e w'=>
  e= .returned (.tuple #[.int .i64 (Lib.bsGo (fun t=>Op.bytesLess (Sx t).toList x.toList) n 0 n:Nat),.bool (decide (Lib.bsGo (fun t=>Op.bytesLess (Sx t).toList x.toList) n 0 n<n/\Sx (Lib.bsGo (fun t=>Op.bytesLess (Sx t).toList x.toList) n 0 n)=x))])/\∃q,w'=w.drewN q:=Any2.slices_BinarySearch_string Tryz.laysNm226 b off n c Sx x w hbig hc
end Go.Proofs
namespace Go.Proofs.YtcnmfcgmnkncaaaGreatDoor
open Go.RowKit
structure LexEnv (w:World):Prop where
 kw:∃b o c,w.cell? ⟨5,0,none⟩=some (.slice (some ⟨b,o,none⟩) 24 c)/\∀j,j<24->w.cell? ⟨b,o+j,none⟩=some (.string (kwz j))
 sy:∃b o c,w.cell? ⟨4,0,none⟩=some (.slice (some ⟨b,o,none⟩) 19 c)/\∀j,j<19->w.cell? ⟨b,o+j,none⟩=some (.string (syz j))
 er:∃te pe,w.cell? ⟨10,0,none⟩=some (.iface te pe)
theorem zEA {w w':World} (hb:Below w.heap.size w w') {a:Addr} {v:Value} (h:w.cell? a=some v):w'.cell? a=some v:=by
 rw [hb.cell (World.block_lt_of_cell? w a h)];exact h
theorem LexEnv.keep {w w':World} (h:LexEnv w) (hb:Below w.heap.size w w'):LexEnv w':=by
 obtain⟨⟨b1,o1,c1,h1,k1⟩,⟨b2,o2,c2,h2,k2⟩,te,pe,h3⟩:=h;exact⟨⟨b1,o1,c1,zEA hb h1,fun j hj=>zEA hb (k1 j hj)⟩,⟨b2,o2,c2,zEA hb h2,fun j hj=>zEA hb (k2 j hj)⟩,te,pe,zEA hb h3⟩
def kwB (l:List UInt8):Bool:=Lex.zAH.contains l
def syB (l:List UInt8):Bool:=Lex.symbols.contains l
theorem zKZ (l:List UInt8):(⟨l.toArray⟩:BA).toList=l:=by rw [Lib.toList_data]
theorem zKD (x:BA) (w:World) (hE:LexEnv w):
 Calls prog 203 #[.string x] w fun e w'=>e= .returned (.bool (kwB x.data.toList))/\Below w.heap.size w w':=by
 obtain⟨b,o,c,h1,h2⟩:=hE.kw;have hB:∀w0,(∀j,j<24->w0.cell? ⟨b,o+j,none⟩=some (.string (kwz j)))->Calls prog 215 #[.slice (some ⟨b,o,none⟩) 24 c,.string x] w0 fun e w'=>
  ∃I:Int,e= .returned (.tuple #[.int .i64 I,.bool (kwB x.data.toList)])/\Below w0.heap.size w0 w':=by
  intro w0 h;refine(Tryz.slices_BinarySearch_string b o 24 c kwz x w0 (by omega) h).mono ?_;rintro e w' ⟨rfl,q,rfl⟩;refine⟨((Lib.bsGo (fun t=>Op.bytesLess (kwz t).toList x.toList) 24 0 24:Nat):Int),?_,below_drewN (Below.refl _ _) q⟩;have hI:Lib.bsGo (fun t=>Op.bytesLess (kwz t).toList x.toList) 24 0 24=Lib.bsGo (fun t=>Op.bytesLess (Lex.zAH.getD t []) x.data.toList) Lex.zAH.length 0 Lex.zAH.length:=by
   congr 1
   funext t
   unfold kwz;rw [zKZ,Lib.toList_data]
  have hf:=zT7 Lex.zAH zRC x.data.toList _ hI;unfold kwB;rw [<-hf]
  congr 3
  have hx:∀I,(kwz I=x)=(Lex.zAH.getD I []=x.data.toList):=by
   intro I
   apply propext
   unfold kwz
   constructor
   ·intro e;rw [<-e]
   ·intro e;apply zEL;exact e
  simp only [hx]
  rfl
 have HB:=zh hB;have H2:=zh h2;clear hB h2 hE;go_in;go_wp2_with (go_at_call 215;refine(HB _ H2).mono ?_;rintro e w' ⟨I,rfl,hb⟩);go_ret;exact⟨rfl,hb⟩
def wordSet:List UInt8:= [97,98,99,100,101,102,103,104,105,106,107,108,109,110,111,112,113,114,115,116,117,118,119,120,121,122,65,66,67,68,69,70,71,72,73,74,75,76,77,78,79,80,81,82,83,84,85,86,87,88,89,90,48,49,50,51,52,53,54,55,56,57,95]
def digitSet:List UInt8:= [48,49,50,51,52,53,54,55,56,57]
def tailSet:List UInt8:= [97,98,99,100,101,102,103,104,105,106,107,108,109,110,111,112,113,114,115,116,117,118,119,120,121,122,65,66,67,68,69,70,71,72,73,74,75,76,77,78,79,80,81,82,83,84,85,86,87,88,89,90,95]
def upperSet:List UInt8:= [65,66,67,68,69,70,71,72,73,74,75,76,77,78,79,80,81,82,83,84,85,86,87,88,89,90]
theorem zEB {p:UInt8->Prop} (h:∀n,n<256->p (UInt8.ofNat n)) (c:UInt8):p c:=by
 have:=h c.toNat c.toNat_lt
 rwa [UInt8.ofNat_toNat] at this
theorem zGV (c:UInt8):wordSet.contains c=Lex.wordc c:=by
 revert c;apply zEB;decide+kernel
theorem zGH (c:UInt8):digitSet.contains c=Lex.digit c:=by
 revert c;apply zEB;decide+kernel
theorem zGW (c:UInt8):tailSet.contains c=Lex.tailc c:=by
 revert c;apply zEB;decide+kernel
theorem zMO (c:UInt8):Lex.letter c=true->decide (0<=Lib.indexByte upperSet c)=decide (c.toNat<=90):=by
 revert c;apply zEB;decide+kernel
theorem zQN (l:List UInt8) (h:∀b∈l,b.toNat<128) (j:Nat) (b:UInt8) (hj:l[j]? =some b):b.toNat<128:=h b (kM hj)
theorem zMU (s:BA) (l:List UInt8) (p:UInt8->Bool) (hp:∀c,l.contains c=p c) (ha:∀b∈l,b.toNat<128) (h2:2<=l.length) (h3:l.length<4294967281) (w:World) (hs:s.size<=9223372036854775807):
 Calls prog 201 #[.string s,.string ⟨l.toArray⟩] w fun e w'=>e= .returned (.string ⟨(s.data.toList.takeWhile p).toArray⟩)/\Below w.heap.size w w':=by
 have h:=zU4 s ⟨l.toArray⟩ w hs (by rw [Lib.size_eq];exact h2) (by rw [Lib.size_eq];exact h3) (fun j b hj=>zQN l ha j b hj);have e:(fun x=>List.contains (⟨l.toArray⟩:BA).data.toList x)=p:=by funext c;exact hp c
 rw [e] at h;exact h
theorem zTF (s:BA) (w:World) (hs:s.size<=9223372036854775807):
 Calls prog 201 #[.string s,.string ⟨#[97,98,99,100,101,102,103,104,105,106,107,108,109,110,111,112,113,114,115,116,117,118,119,120,121,122,65,66,67,68,69,70,71,72,73,74,75,76,77,78,79,80,81,82,83,84,85,86,87,88,89,90,48,49,50,51,52,53,54,55,56,57,95]⟩] w fun e w'=>e= .returned (.string ⟨(s.data.toList.takeWhile Lex.wordc).toArray⟩)/\Below w.heap.size w w':=
 zMU s wordSet Lex.wordc zGV (by decide) (by decide) (by decide) w hs
theorem zQR (s:BA) (w:World) (hs:s.size<=9223372036854775807):
 Calls prog 201 #[.string s,.string ⟨#[48,49,50,51,52,53,54,55,56,57]⟩] w fun e w'=>e= .returned (.string ⟨(s.data.toList.takeWhile Lex.digit).toArray⟩)/\Below w.heap.size w w':=
 zMU s digitSet Lex.digit zGH (by decide) (by decide) (by decide) w hs
theorem zTG (s:BA) (w:World) (hs:s.size<=9223372036854775807):
 Calls prog 201 #[.string s,.string ⟨#[97,98,99,100,101,102,103,104,105,106,107,108,109,110,111,112,113,114,115,116,117,118,119,120,121,122,65,66,67,68,69,70,71,72,73,74,75,76,77,78,79,80,81,82,83,84,85,86,87,88,89,90,95]⟩] w fun e w'=>e= .returned (.string ⟨(s.data.toList.takeWhile Lex.tailc).toArray⟩)/\Below w.heap.size w w':=
 zMU s tailSet Lex.tailc zGW (by decide) (by decide) (by decide) w hs
theorem after1 (w:World) (o:Obj) {w1:World} (hb:Below (w.alloc o).heap.size (w.alloc o) w1):Below w.heap.size w w1:=
 ((Below.refl _ _).alloc (kL _) o).trans (hb.mono (by rw [World.size_alloc];omega))
theorem zBH (w:World) (o:Obj) {w1:World} (hb:Below (w.alloc o).heap.size (w.alloc o) w1):w.heap.size<w1.heap.size:=by
 have h:=hb.size;rw [World.size_alloc] at h;omega
theorem zA6 (w:World) (cs:Array Value) (t:TypeId) {w1:World} (hb:Below (w.alloc (.cells cs t)).heap.size (w.alloc (.cells cs t)) w1):
 (∀o,w1.cell? ⟨w.heap.size,o,none⟩=cs[o]?)/\(∀o,w1.frozen? ⟨w.heap.size,o,none⟩=false):=by
 have hlt:w.heap.size<(w.alloc (.cells cs t)).heap.size:=by rw [World.size_alloc];omega
 refine⟨fun o=>?_,fun o=>?_⟩
 ·rw [hb.cell (p:=⟨w.heap.size,o,none⟩) hlt,World.cell?_alloc_new]
 ·rw [hb.frozen (p:=⟨w.heap.size,o,none⟩) hlt];unfold World.frozen?;simp only [heap_alloc_new];simp
theorem zIK {b:Nat} {cs:Array Value} {w1:World} (h:∀o,w1.cell? ⟨b,o,none⟩=cs[o]?) (hf:∀o,w1.frozen? ⟨b,o,none⟩=false) (X:Obj) {w2:World} (hb:Below (w1.alloc X).heap.size (w1.alloc X) w2) (hlt:b<w1.heap.size):
 (∀o,w2.cell? ⟨b,o,none⟩=cs[o]?)/\(∀o,w2.frozen? ⟨b,o,none⟩=false):=by
 have hlt2:b<(w1.alloc X).heap.size:=by rw [World.size_alloc];omega
 refine⟨fun o=>?_,fun o=>?_⟩
 ·rw [hb.cell (p:=⟨b,o,none⟩) hlt2,<-h o];exact World.cell?_of_block (w:=w1) (Below.heap_alloc w1 X b hlt)
 ·rw [hb.frozen (p:=⟨b,o,none⟩) hlt2,<-hf o];exact World.frozen?_of_block (w:=w1) (Below.heap_alloc w1 X b hlt)
theorem name_any (s:BA) (c:UInt8) (r:List UInt8) (w:World) (hE:LexEnv w) (hs:s.size<=9223372036854775806) (hl:s.data.toList=c::r) (hc:Lex.letter c=true):
 Calls prog 191 #[.string s] w fun e w'=>e= .returned (gotV 0 (Lex.nameAt s.data.toList))/\Below w.heap.size w w':=by
 obtain⟨T,hT⟩:∃T,s.data.toList.takeWhile Lex.wordc=T:=⟨_,rfl⟩;have hR:∀w0,Calls prog 201 #[.string s,.string ⟨#[97,98,99,100,101,102,103,104,105,106,107,108,109,110,111,112,113,114,115,116,117,118,119,120,121,122,65,66,67,68,69,70,71,72,73,74,75,76,77,78,79,80,81,82,83,84,85,86,87,88,89,90,48,49,50,51,52,53,54,55,56,57,95]⟩] w0 fun e w'=>e= .returned (.string ⟨T.toArray⟩)/\Below w0.heap.size w0 w':=by
  intro w0;rw [<-hT];exact zTF s w0 (by omega)
 obtain⟨T',hTc⟩:∃T',T=c::T':=by
  rw [<-hT,hl,List.takeWhile_cons,kD (by unfold Lex.wordc;rw [hc];rfl)];exact⟨_,rfl⟩
 have hhead:T.headD 0=c:=by rw [hTc];rfl
 have hone:(⟨T.toArray⟩:BA).extract 0 1=⟨#[c]⟩:=by
  apply zEL;rw [Lib.extract_data];show(T.drop 0).take 1= [c];rw [hTc];rfl
 have hsz:(⟨T.toArray⟩:BA).size=T.length:=by rw [Lib.size_eq]
 have hpos:1<=T.length:=by rw [hTc];simp
 have hU:∀w0,Calls prog 204 #[.string ⟨#[65,66,67,68,69,70,71,72,73,74,75,76,77,78,79,80,81,82,83,84,85,86,87,88,89,90]⟩,.string ⟨#[c]⟩] w0 fun e w'=>e= .returned (.bool (decide (c.toNat<=90)))/\w'=w0:=by
  intro w0;have h:=Tryz.strings_Contains_one ⟨#[65,66,67,68,69,70,71,72,73,74,75,76,77,78,79,80,81,82,83,84,85,86,87,88,89,90]⟩ c w0;rw [<-zMO c hc];exact h
 have hKw:∀w0,LexEnv w0->Calls prog 203 #[.string ⟨T.toArray⟩] w0 fun e w'=>e= .returned (.bool (kwB T))/\Below w0.heap.size w0 w':=by
  intro w0 h0;exact zKD ⟨T.toArray⟩ w0 h0
 have HR:=zh hR;have HT:=zh hT;have HU:=zh hU;have HK:=zh hKw;have HH:=zh hhead;have HE:=zh hE;clear hR hT hl hU hTc hhead hKw hE;by_cases hbig:31<T.length
 ·go_in;go_wp2_with (go_at_call 201;refine(HR _).mono ?_;rintro e w1 ⟨rfl,hb⟩;obtain⟨hc1,hf1⟩:=zA6 w _ _ hb;have hz1:=zBH w _ hb;have hB1:=after1 w _ hb);refine bodyPost_ret (v:= .tuple #[tokV 0 [] 0 0,.int .i64 8]) (by simp [results,results191,go_sem,tokV,hc1,hz1]) rfl ⟨?_,?_⟩
  ·rw [zO2 HT.out hbig];rfl
  ·((repeat' (first|(with_reducible exact hB1)|(with_reducible exact Below.refl _ _)|(with_reducible refine Below.drew ?_)|(with_reducible refine below_drewN ?_ _)|(with_reducible refine Below.alloc ?_ ?_ _)|(with_reducible refine Below.setCell ?_ ?_ _)))<;>(simp<;>omega))
 ·cases hk:kwB T
  ·have hk2:=zh hk;by_cases h90:c.toNat<=90
   ·have hd:=kS h90;go_in;go_wp2_with (first|(go_at_call 201;refine(HR _).mono ?_;rintro e w1 ⟨rfl,hb⟩;obtain⟨hc1,hf1⟩:=zA6 w _ _ hb;have hz1:=zBH w _ hb;have hB1:=after1 w _ hb)|(go_at_call 203;refine(HK _ (HE.keep (hB1.alloc (Nat.le_of_lt hz1) _))).mono ?_;rintro e w2 ⟨rfl,hb2⟩;obtain⟨hc2,hf2⟩:=zA6 w1 _ _ hb2;obtain⟨hc3,hf3⟩:=zIK hc1 hf1 _ hb2 hz1;have hz2:=zBH w1 _ hb2;have hB2:=hB1.trans ((after1 w1 _ hb2).mono (Nat.le_of_lt hz1)))|(go_at_call 204;refine(HU _).mono ?_;rintro e w' ⟨rfl,hw'⟩;rw [hw']));refine bodyPost_ret (v:= .tuple #[tokV 3 T 0 0,.int .i64 0]) (by simp [results,results191,go_sem,tokV,hc3]) rfl ⟨?_,?_⟩
    ·rw [zFQ HT.out,kC hbig,HH.out,show Lex.zAH.contains T=false from hk2.out,kC (by simp),kD h90];rfl
    ·((repeat' (first|(with_reducible exact hB2)|(with_reducible exact Below.refl _ _)|(with_reducible refine Below.drew ?_)|(with_reducible refine below_drewN ?_ _)|(with_reducible refine Below.alloc ?_ ?_ _)|(with_reducible refine Below.setCell ?_ ?_ _)))<;>(simp<;>omega))
   ·have hd:=kE h90;go_in;go_wp2_with (first|(go_at_call 201;refine(HR _).mono ?_;rintro e w1 ⟨rfl,hb⟩;obtain⟨hc1,hf1⟩:=zA6 w _ _ hb;have hz1:=zBH w _ hb;have hB1:=after1 w _ hb)|(go_at_call 203;refine(HK _ (HE.keep (hB1.alloc (Nat.le_of_lt hz1) _))).mono ?_;rintro e w2 ⟨rfl,hb2⟩;obtain⟨hc2,hf2⟩:=zA6 w1 _ _ hb2;obtain⟨hc3,hf3⟩:=zIK hc1 hf1 _ hb2 hz1;have hz2:=zBH w1 _ hb2;have hB2:=hB1.trans ((after1 w1 _ hb2).mono (Nat.le_of_lt hz1)))|(go_at_call 204;refine(HU _).mono ?_;rintro e w' ⟨rfl,hw'⟩;rw [hw']));refine bodyPost_ret (v:= .tuple #[tokV 2 T 0 0,.int .i64 0]) (by simp [results,results191,go_sem,tokV,hc3]) rfl ⟨?_,?_⟩
    ·rw [zFQ HT.out,kC hbig,HH.out,show Lex.zAH.contains T=false from hk2.out,kC (by simp),kC h90];rfl
    ·((repeat' (first|(with_reducible exact hB2)|(with_reducible exact Below.refl _ _)|(with_reducible refine Below.drew ?_)|(with_reducible refine below_drewN ?_ _)|(with_reducible refine Below.alloc ?_ ?_ _)|(with_reducible refine Below.setCell ?_ ?_ _)))<;>(simp<;>omega))
  ·have hk2:=zh hk;go_in;go_wp2_with (first|(go_at_call 201;refine(HR _).mono ?_;rintro e w1 ⟨rfl,hb⟩;obtain⟨hc1,hf1⟩:=zA6 w _ _ hb;have hz1:=zBH w _ hb;have hB1:=after1 w _ hb)|(go_at_call 203;refine(HK _ (HE.keep (hB1.alloc (Nat.le_of_lt hz1) _))).mono ?_;rintro e w2 ⟨rfl,hb2⟩;obtain⟨hc2,hf2⟩:=zA6 w1 _ _ hb2;obtain⟨hc3,hf3⟩:=zIK hc1 hf1 _ hb2 hz1;have hz2:=zBH w1 _ hb2;have hB2:=hB1.trans ((after1 w1 _ hb2).mono (Nat.le_of_lt hz1)))|(go_at_call 204;refine(HU _).mono ?_;rintro e w' ⟨rfl,hw'⟩;rw [hw']));refine bodyPost_ret (v:= .tuple #[tokV 4 T 0 0,.int .i64 0]) (by simp [results,results191,go_sem,tokV,hc3]) rfl ⟨?_,?_⟩
   ·rw [zFQ HT.out,kC hbig,show Lex.zAH.contains T=true from hk2.out,kD rfl];rfl
   ·((repeat' (first|(with_reducible exact hB2)|(with_reducible exact Below.refl _ _)|(with_reducible refine Below.drew ?_)|(with_reducible refine below_drewN ?_ _)|(with_reducible refine Below.alloc ?_ ?_ _)|(with_reducible refine Below.setCell ?_ ?_ _)))<;>(simp<;>omega))
theorem zNH (T:List UInt8):Lib.containsS ((List.range 19).map syz) ⟨T.toArray⟩=syB T:=by
 rw [Bool.eq_iff_iff,Lib.containsS_iff];unfold syB;rw [List.contains_iff_mem,List.mem_map]
 constructor
 ·rintro ⟨j,hj,he⟩;have h4:j<19:=by simpa using hj
  have hk:j<Lex.symbols.length:=h4;have:(Lex.symbols.getD j [])=T:=by
   have h3:=congrArg (fun x:BA=>x.data.toList) he
   simpa [syz] using h3
  rw [<-this,List.getD_eq_getElem?_getD,kB hk];exact List.getElem_mem hk
 ·intro h;obtain⟨j,hj,he⟩:=List.getElem_of_mem h;have h4:j<19:=hj;refine⟨j,by simpa using h4,?_⟩;unfold syz;rw [List.getD_eq_getElem?_getD,kB hj,Option.getD_some,he]
theorem zDT (w:World) (b o c:Nat) (T:List UInt8) (h:∀j,j<19->w.cell? ⟨b,o+j,none⟩=some (.string (syz j))):
 Calls prog 129 #[.slice (some ⟨b,o,none⟩) 19 c,.string ⟨T.toArray⟩] w fun e w'=>e= .returned (.bool (syB T))/\w'=w:=by
 have h1:=Tryz.slices_Contains_string b o 19 c ((List.range 19).map syz) ⟨T.toArray⟩ w (by simp) (by omega) (by
  intro j hj;have hj2:j<19:=by simpa using hj
  rw [h j hj2];simp [hj2])
 rw [kR (by simp),zNH] at h1;exact h1
theorem zOS (s:BA) (w:World) (hE:LexEnv w) (hs:s.size<=9223372036854775806) (h0:0<s.size):
 Calls prog 192 #[.string s] w fun e w'=>e= .returned (gotV 0 (Lex.symbolAt s.data.toList))/\Below w.heap.size w w':=by
 obtain⟨b,o,c,h1,h2⟩:=hE.sy;have hlen:=Lib.size_eq s;obtain⟨l,hl⟩:∃l,s.data.toList=l:=⟨_,rfl⟩;rw [hl] at hlen |-;have hx2:s.extract 0 2=⟨(l.take 2).toArray⟩:=by apply zEL;rw [Lib.extract_data,hl];rfl
 have hx1:s.extract 0 1=⟨(l.take 1).toArray⟩:=by apply zEL;rw [Lib.extract_data,hl];rfl
 obtain⟨T2,hT2⟩:∃T,l.take 2=T:=⟨_,rfl⟩;obtain⟨T1,hT1⟩:∃T,l.take 1=T:=⟨_,rfl⟩;rw [hT2] at hx2;rw [hT1] at hx1;have HL:=zh hlen;have HT2:=zh hT2;have HT1:=zh hT1;have H2:=zh h2;have hbw:=World.block_lt_of_cell? w _ (h2 0 (by omega));have hg:=World.block_lt_of_cell? w _ h1;simp only at hbw hg;clear hlen hl hT2 hT1 h2 hE;obtain⟨m,hm,hm2⟩:∃m:Nat,min 2 (s.size:Int)=m/\((m=2/\2<=s.size)\/(m=1/\s.size=1)):=by
  by_cases h:2<=s.size
  ·exact⟨2,by omega,.inl ⟨rfl,h⟩⟩
  ·exact⟨1,by omega,.inr ⟨rfl,by omega⟩⟩
 have HM:=zh hm2;clear hm2;go_in;go_wp2;clear hm
 go_loopw [4] (fun n wr=>∃k:Nat,n= .int .i64 k/\k<=2/\k<=s.size/\(k<2->¬(2<=s.size/\syB T2=true))/\(k=0->¬(syB T1=true))/\∃q,wr=(w.alloc (.cells #[.int .i64 0,.string ⟨#[]⟩,.int .i64 0,.int .i64 0] 203)).drewN q) (fun n _=>(intOf n).toNat)
 case atStart=>
  have hm3:=HM.out;exact⟨m,rfl,by omega,by omega,by omega,by omega,0,rfl⟩
 case round=>
  obtain⟨k,rfl,hk2,hks,hA,hB,q,rfl⟩:=hrel;have HA:=zh hA;have HB:=zh hB;clear hA hB;rcases (show k=0\/k=1\/k=2 by omega) with rfl|rfl|rfl
  ·go_wp2;refine bodyPost_ret (v:= .tuple #[tokV 0 [] 0 0,.int .i64 3]) (by simp [results,results192,go_sem,tokV]) rfl ⟨?_,?_⟩
   ·have h5:=HA (by omega);have h6:=HB trivial;rw [zHL (by rw [HT2.out,<-HL.out];exact h5) (by rw [HT1.out];show syB T1=false;simpa using h6)];rfl
   ·((repeat' (first|(with_reducible exact Below.refl _ _)|(with_reducible refine Below.drew ?_)|(with_reducible refine below_drewN ?_ _)|(with_reducible refine Below.alloc ?_ ?_ _)|(with_reducible refine Below.setCell ?_ ?_ _)))<;>(simp<;>omega))
  ·have z1:(0:Int)<=1:=(by omega);have z2:(1:Int)<=(s.size:Int):=(by omega);cases hk:syB T1
   ·go_wp2
    go_region_held3 (fun w'=>w'.cell? ⟨4,0,none⟩=some (.slice (some ⟨b,o,none⟩) 19 c)) (go_keep) (first|(go_at_call 129;refine(zDT _ _ _ _ _ (by intro j hj;refine Eq.trans ?_ (H2 j hj);exact World.cell?_of_block (w:=w) (Below.heap_alloc w _ b hbw))).mono ?_;rintro e w' ⟨rfl,rfl⟩))
    go_wp2;go_roundw
    case rel=>
     have h5:=HA.out;exact⟨0,by go_num,by omega,by omega,by intro _;exact h5 (by omega),by intro _;simp,_,rfl⟩
    case measure=>simp [intOf]
   ·have HK:=zh hk;go_wp2
    go_region_held3 (fun w'=>w'.cell? ⟨4,0,none⟩=some (.slice (some ⟨b,o,none⟩) 19 c)) (go_keep) (first|(go_at_call 129;refine(zDT _ _ _ _ _ (by intro j hj;refine Eq.trans ?_ (H2 j hj);exact World.cell?_of_block (w:=w) (Below.heap_alloc w _ b hbw))).mono ?_;rintro e w' ⟨rfl,rfl⟩))
    go_wp2;refine bodyPost_ret (v:= .tuple #[tokV 5 T1 0 0,.int .i64 0]) (by simp [results,results192,go_sem,tokV]) rfl ⟨?_,?_⟩
    ·have h5:=HA (by omega);rw [zK1 (by rw [HT2.out,<-HL.out];exact h5) (by rw [HT1.out];exact HK),HT1.out];rfl
    ·((repeat' (first|(with_reducible exact Below.refl _ _)|(with_reducible refine Below.drew ?_)|(with_reducible refine below_drewN ?_ _)|(with_reducible refine Below.alloc ?_ ?_ _)|(with_reducible refine Below.setCell ?_ ?_ _)))<;>(simp<;>omega))
  ·have z1:(0:Int)<=2:=(by omega);have z2:(2:Int)<=(s.size:Int):=(by omega);cases hk:syB T2
   ·go_wp2
    go_region_held3 (fun w'=>w'.cell? ⟨4,0,none⟩=some (.slice (some ⟨b,o,none⟩) 19 c)) (go_keep) (first|(go_at_call 129;refine(zDT _ _ _ _ _ (by intro j hj;refine Eq.trans ?_ (H2 j hj);exact World.cell?_of_block (w:=w) (Below.heap_alloc w _ b hbw))).mono ?_;rintro e w' ⟨rfl,rfl⟩))
    go_wp2;go_roundw
    case rel=>exact ⟨1,by go_num,by omega,by omega,by intro _;simp,by omega,_,rfl⟩
    case measure=>simp [intOf]
   ·have HK:=zh hk;go_wp2
    go_region_held3 (fun w'=>w'.cell? ⟨4,0,none⟩=some (.slice (some ⟨b,o,none⟩) 19 c)) (go_keep) (first|(go_at_call 129;refine(zDT _ _ _ _ _ (by intro j hj;refine Eq.trans ?_ (H2 j hj);exact World.cell?_of_block (w:=w) (Below.heap_alloc w _ b hbw))).mono ?_;rintro e w' ⟨rfl,rfl⟩))
    go_wp2;refine bodyPost_ret (v:= .tuple #[tokV 5 T2 0 0,.int .i64 0]) (by simp [results,results192,go_sem,tokV]) rfl ⟨?_,?_⟩
    ·rw [zK0 (by rw [<-HL.out];omega) (by rw [HT2.out];exact HK),HT2.out];rfl
    ·((repeat' (first|(with_reducible exact Below.refl _ _)|(with_reducible refine Below.drew ?_)|(with_reducible refine below_drewN ?_ _)|(with_reducible refine Below.alloc ?_ ?_ _)|(with_reducible refine Below.setCell ?_ ?_ _)))<;>(simp<;>omega))
end Go.Proofs.YtcnmfcgmnkncaaaGreatDoor
namespace Go.Proofs.YtcnmfcgmnkncaaaGreatDoor
theorem zSW (l:List UInt8):∀acc:Nat,acc<=l.foldl (fun n c=>10*n+(c.toNat -48)) acc:=by
 induction l with
 |nil=>intro acc;exact kL _
 |cons c r ih=>
  intro acc;have:=ih (10*acc+(c.toNat -48));rw [List.foldl_cons];omega
theorem zDA:∀(l:List UInt8) (acc:Nat),(∀c∈l,48<=c.toNat/\c.toNat<=57)->acc<=18446744073709551615->
 Lib.parseUintM 18446744073709551615 acc l=if l.foldl (fun n c=>10*n+(c.toNat -48)) acc<=18446744073709551615 then .ok (l.foldl (fun n c=>10*n+(c.toNat -48)) acc) else .range
 | [],acc,_,h=>by rw [Lib.parseUintM,List.foldl_nil,kD h]
 |c::r,acc,hd,h=>by
  have hc:=hd c (by simp);have hge:=zSW r (10*acc+(c.toNat -48));rw [Lib.parseUintM,kD hc,List.foldl_cons];by_cases h1:1844674407370955162<=acc
  ·rw [kD h1,kC (by omega)]
  ·rw [kC h1];by_cases h2:18446744073709551615<acc*10+(c.toNat -48)
   ·rw [kD h2,kC (by omega)]
   ·rw [kC h2,show acc*10+(c.toNat -48)=10*acc+(c.toNat -48) by omega];exact zDA r _ (fun x hx=>hd x (by simp [hx])) (by omega)
theorem zD3 (l:List UInt8) (hne:l≠ []) (hd:∀c∈l,48<=c.toNat/\c.toNat<=57):
 Lib.parseIntB 64 l=if Lex.value l<9223372036854775808 then .ok (Lex.value l:Int) else .range:=by
 cases l with
 |nil=>exact absurd rfl hne
 |cons c r=>
  have hc:=hd c (by simp);have hsign:¬(c.toNat=43\/c.toNat=45):=(by omega);unfold Lib.parseIntB;simp only [kC hsign];have hU:Lib.parseUintB 64 (c::r)=if Lex.value (c::r)<=18446744073709551615 then .ok (Lex.value (c::r)) else .range:=by
   unfold Lib.parseUintB;rw [kC (by simp)];exact zDA (c::r) 0 hd (by omega)
  rw [hU];have h45:¬c.toNat=45:=(by omega);by_cases h1:Lex.value (c::r)<=18446744073709551615
  ·rw [kD h1];simp only [h45,not_false_eq_true,true_and,false_and,if_false];by_cases h2:Lex.value (c::r)<9223372036854775808
   ·rw [kD h2,kC (by show ¬9223372036854775808<=_;omega)]
   ·rw [kC h2,kD (by show 9223372036854775808<=_;omega)]
  ·rw [kC h1,kC (by omega)]
end Go.Proofs.YtcnmfcgmnkncaaaGreatDoor
namespace Go.Proofs.YtcnmfcgmnkncaaaGreatDoor
open Go.RowKit
theorem zSC {l T:List UInt8} (h:l.takeWhile Lex.digit=T):∀c∈T,48<=c.toNat/\c.toNat<=57:=by
 intro c hc;rw [<-h] at hc;have:=List.all_eq_true.1 (List.all_takeWhile (p:=Lex.digit) (l:=l)) c hc;exact of_decide_eq_true this
theorem zHQ (T:List UInt8) (w:World) (hne:T≠ []) (hd:∀c∈T,48<=c.toNat/\c.toNat<=57) (hT:T.length<=140737488355328) (hv:Lex.value T<9223372036854775808):
 Calls prog 202 #[.string ⟨T.toArray⟩,.int .i64 10,.int .i64 64] w fun e w'=>e= .returned (.tuple #[.int .i64 (Lex.value T:Nat),.nilIface])/\Below w.heap.size w w':=by
 refine(Tryz.strconv_ParseInt_10_at64_ok ⟨T.toArray⟩ (by rw [Lib.size_eq];show T.length<=_;omega) (Lex.value T) (by show Lib.parseIntB 64 T=_;rw [zD3 T hne hd,kD hv]) w).mono ?_;rintro e w' ⟨rfl,rfl|⟨t,rfl⟩⟩
 ·exact⟨rfl,Below.refl _ _⟩
 ·exact⟨rfl,Lib.bytesWorld_below _ _ _⟩
theorem zMZ (T:List UInt8) (w:World) (hE:LexEnv w) (hne:T≠ []) (hd:∀c∈T,48<=c.toNat/\c.toNat<=57) (hT:T.length<=140737488355328) (hv:¬Lex.value T<9223372036854775808):
 Calls prog 202 #[.string ⟨T.toArray⟩,.int .i64 10,.int .i64 64] w fun e w'=>(∃(x:Int) (u:TypeId) (p:Value),e= .returned (.tuple #[.int .i64 x,.iface u p]))/\Below w.heap.size w w':=by
 obtain⟨te,pe,hc⟩:=hE.er;refine(Tryz.strconv_ParseInt_10_at64_range ⟨T.toArray⟩ (by rw [Lib.size_eq];show T.length<=_;omega) (by show Lib.parseIntB 64 T=_;rw [zD3 T hne hd,kC hv]) _ w hc (.inr ⟨te,pe,rfl⟩)).mono ?_;rintro e w' ⟨N,rfl,_,_,hb⟩;exact⟨⟨_,_,_,rfl⟩,hb⟩
theorem zEW (l T:List UInt8):(l.drop T.length).head?.any Lex.tailc= !((l.drop T.length).takeWhile Lex.tailc).isEmpty:=by
 cases hd:l.drop T.length with
 |nil=>rfl
 |cons a r=>
  simp only [List.head?_cons,Option.any_some,List.takeWhile_cons];cases Lex.tailc a<;>rfl
theorem zO1 (s:BA) (c:UInt8) (r:List UInt8) (w:World) (hE:LexEnv w) (hs:s.size<=140737488355328) (hl:s.data.toList=c::r) (hc:Lex.digit c=true):
 Calls prog 190 #[.string s] w fun e w'=>e= .returned (gotV 0 (Lex.numberAt s.data.toList))/\Below w.heap.size w w':=by
 obtain⟨T,hT⟩:∃T,s.data.toList.takeWhile Lex.digit=T:=⟨_,rfl⟩;have hlen:=Lib.size_eq s;have hTl:T.length<=s.size:=by rw [<-hT,hlen];exact Lex.zDY _ _
 have hR:∀w0,Calls prog 201 #[.string s,.string ⟨#[48,49,50,51,52,53,54,55,56,57]⟩] w0 fun e w'=>e= .returned (.string ⟨T.toArray⟩)/\Below w0.heap.size w0 w':=by
  intro w0;rw [<-hT];exact zQR s w0 (by omega)
 obtain⟨T',hTc⟩:∃T',T=c::T':=by
  rw [<-hT,hl,List.takeWhile_cons,kD hc];exact⟨_,rfl⟩
 have hget:∀h:0<(⟨T.toArray⟩:BA).size,(⟨T.toArray⟩:BA)[0]'h=c:=by rw [hTc];intro h;rfl
 have hhead:T.headD 0=c:=by rw [hTc];rfl
 have hne:T≠ []:=by rw [hTc];simp
 have hsz:(⟨T.toArray⟩:BA).size=T.length:=by rw [Lib.size_eq]
 have hpos:1<=T.length:=by rw [hTc];simp
 obtain⟨R,hRR⟩:∃R,(s.data.toList.drop T.length).takeWhile Lex.tailc=R:=⟨_,rfl⟩;have hR2:∀w0,Calls prog 201 #[.string (s.extract T.length s.size),.string ⟨#[97,98,99,100,101,102,103,104,105,106,107,108,109,110,111,112,113,114,115,116,117,118,119,120,121,122,65,66,67,68,69,70,71,72,73,74,75,76,77,78,79,80,81,82,83,84,85,86,87,88,89,90,95]⟩] w0 fun e w'=>e= .returned (.string ⟨R.toArray⟩)/\Below w0.heap.size w0 w':=by
  intro w0;have h:=zTG (s.extract T.length s.size) w0 (by rw [Lib.size_eq,Lib.extract_data];simp;omega);rw [Lib.extract_to_end,hRR] at h;exact h
 have htl:=zEW s.data.toList T;rw [hRR] at htl;have hdig:=zSC hT;have HR:=zh hR;have HT:=zh hT;have HR2:=zh hR2;have HE:=zh hE;have HTL:=zh htl;have HD:=zh hdig;have HH:=zh hhead;have HNE:=zh hne;clear hR hT hl hTc hE htl hR2 hlen hRR hdig hhead hne;by_cases hz:1<T.length/\T.headD 0=48
 ·obtain⟨hz1',hz2'⟩:=hz;have h48:((c.toNat:Int) == 48)=true:=by rw [HH.out] at hz2';rw [hz2'];rfl
  have HZ:=zh hz2';clear hz2';go_in;go_wp2_with fail;refine(HR _).mono ?_;rintro e w1 ⟨rfl,hb⟩;obtain⟨hc1,hf1⟩:=zA6 w _ _ hb;have hz1:=zBH w _ hb;have hB1:=after1 w _ hb;go_wp2;refine bodyPost_ret (v:= .tuple #[tokV 0 [] 0 0,.int .i64 3]) (by simp [results,results190,go_sem,tokV,hc1]) rfl ⟨?_,?_⟩
  ·cases htl:R.isEmpty
   ·rw [zFO HT.out (by rw [HTL.out,htl];rfl)];rfl
   ·rw [zDP HT.out (by rw [HTL.out,htl];rfl),kD ⟨hz1',HZ⟩];rfl
  ·((repeat' (first|(with_reducible exact hB1)|(with_reducible exact Below.refl _ _)|(with_reducible refine Below.drew ?_)|(with_reducible refine below_drewN ?_ _)|(with_reducible refine Below.alloc ?_ ?_ _)|(with_reducible refine Below.setCell ?_ ?_ _)))<;>(simp<;>omega))
 ·have HZ:=zh hz;have hz5:¬1<T.length\/(1<T.length/\((c.toNat:Int) == 48)=false):=by
   by_cases h:1<T.length
   ·refine .inr ⟨h,beq_no _ _ fun e=>hz ⟨h,?_⟩⟩;rw [HH.out];exact UInt8.toNat_inj.1 (by show _=48;omega)
   ·exact .inl h
  clear hz;cases R with
  |cons a R'=>
   have hne2:((⟨(a::R').toArray⟩:BA).toList == [])=false:=by rw [zKZ];rfl
   rcases hz5 with hz5|⟨hz5,hz6⟩
   all_goals
    go_in;go_wp2_with fail;refine(HR _).mono ?_;rintro e w1 ⟨rfl,hb⟩;obtain⟨hc1,hf1⟩:=zA6 w _ _ hb;have hz1:=zBH w _ hb;have hB1:=after1 w _ hb;go_wp2_with fail;refine(HR2 _).mono ?_;rintro e w2 ⟨rfl,hb2⟩;have hc2:=fun o=>(hb2.cell (p:=⟨w.heap.size,o,none⟩) hz1).trans (hc1 o);have hf2:=fun o=>(hb2.frozen (p:=⟨w.heap.size,o,none⟩) hz1).trans (hf1 o);have hz2:=kP hz1 hb2.size;have hB2:=hB1.trans (hb2.mono hB1.size)
    go_wp2;refine bodyPost_ret (v:= .tuple #[tokV 0 [] 0 0,.int .i64 3]) (by simp [results,results190,go_sem,tokV,hc2]) rfl ⟨?_,?_⟩
    ·rw [zFO HT.out (by rw [HTL.out];rfl)];rfl
    ·((repeat' (first|(with_reducible exact hB2)|(with_reducible exact Below.refl _ _)|(with_reducible refine Below.drew ?_)|(with_reducible refine below_drewN ?_ _)|(with_reducible refine Below.alloc ?_ ?_ _)|(with_reducible refine Below.setCell ?_ ?_ _)))<;>(simp<;>omega))
  |nil=>
   have hmax:T.length<=140737488355328:=(by omega);by_cases hv:Lex.value T<9223372036854775808
   ·have HV:=zh hv;clear hv;by_cases hm:Lex.value T<=2305843009213693951
    ·have hm2:decide (2305843009213693951<((Lex.value T:Nat):Int))=false:=kE (by omega);have HM:=zh hm;rcases hz5 with hz5|⟨hz5,hz6⟩
     all_goals
      go_in;go_wp2_with fail;refine(HR _).mono ?_;rintro e w1 ⟨rfl,hb⟩;obtain⟨hc1,hf1⟩:=zA6 w _ _ hb;have hz1:=zBH w _ hb;have hB1:=after1 w _ hb;go_wp2_with fail;refine(HR2 _).mono ?_;rintro e w2 ⟨rfl,hb2⟩;have hc2:=fun o=>(hb2.cell (p:=⟨w.heap.size,o,none⟩) hz1).trans (hc1 o);have hf2:=fun o=>(hb2.frozen (p:=⟨w.heap.size,o,none⟩) hz1).trans (hf1 o);have hz2:=kP hz1 hb2.size;have hB2:=hB1.trans (hb2.mono hB1.size)
      go_wp2_with fail;refine(zHQ T _ HNE HD (by omega) HV).mono ?_;rintro e w3 ⟨rfl,hb3⟩;have hc3:=fun o=>(hb3.cell (p:=⟨w.heap.size,o,none⟩) hz2).trans (hc2 o);have hf3:=fun o=>(hb3.frozen (p:=⟨w.heap.size,o,none⟩) hz2).trans (hf2 o);have hB3:=hB2.trans (hb3.mono hB2.size)
      go_wp2;refine bodyPost_ret (v:= .tuple #[tokV 1 T (Lex.value T) 0,.int .i64 0]) (by simp [results,results190,go_sem,tokV,hc3]) rfl ⟨?_,?_⟩
      ·rw [zDP HT.out (by rw [HTL.out];rfl),kC HZ.out,kC (by have:=HM.out;omega)];rfl
      ·((repeat' (first|(with_reducible exact hB3)|(with_reducible exact Below.refl _ _)|(with_reducible refine Below.drew ?_)|(with_reducible refine below_drewN ?_ _)|(with_reducible refine Below.alloc ?_ ?_ _)|(with_reducible refine Below.setCell ?_ ?_ _)))<;>(simp<;>omega))
    ·have hm2:decide (2305843009213693951<((Lex.value T:Nat):Int))=true:=kS (by omega);have HM:=zh hm;rcases hz5 with hz5|⟨hz5,hz6⟩
     all_goals
      go_in;go_wp2_with fail;refine(HR _).mono ?_;rintro e w1 ⟨rfl,hb⟩;obtain⟨hc1,hf1⟩:=zA6 w _ _ hb;have hz1:=zBH w _ hb;have hB1:=after1 w _ hb;go_wp2_with fail;refine(HR2 _).mono ?_;rintro e w2 ⟨rfl,hb2⟩;have hc2:=fun o=>(hb2.cell (p:=⟨w.heap.size,o,none⟩) hz1).trans (hc1 o);have hf2:=fun o=>(hb2.frozen (p:=⟨w.heap.size,o,none⟩) hz1).trans (hf1 o);have hz2:=kP hz1 hb2.size;have hB2:=hB1.trans (hb2.mono hB1.size)
      go_wp2_with fail;refine(zHQ T _ HNE HD (by omega) HV).mono ?_;rintro e w3 ⟨rfl,hb3⟩;have hc3:=fun o=>(hb3.cell (p:=⟨w.heap.size,o,none⟩) hz2).trans (hc2 o);have hf3:=fun o=>(hb3.frozen (p:=⟨w.heap.size,o,none⟩) hz2).trans (hf2 o);have hB3:=hB2.trans (hb3.mono hB2.size)
      go_wp2;refine bodyPost_ret (v:= .tuple #[tokV 0 [] 0 0,.int .i64 2]) (by simp [results,results190,go_sem,tokV,hc3]) rfl ⟨?_,?_⟩
      ·rw [zDP HT.out (by rw [HTL.out];rfl),kC HZ.out,kD (by have:=HM.out;omega)];rfl
      ·((repeat' (first|(with_reducible exact hB3)|(with_reducible exact Below.refl _ _)|(with_reducible refine Below.drew ?_)|(with_reducible refine below_drewN ?_ _)|(with_reducible refine Below.alloc ?_ ?_ _)|(with_reducible refine Below.setCell ?_ ?_ _)))<;>(simp<;>omega))
   ·have HV:=zh hv;clear hv;rcases hz5 with hz5|⟨hz5,hz6⟩
    all_goals
     go_in;go_wp2_with fail;refine(HR _).mono ?_;rintro e w1 ⟨rfl,hb⟩;obtain⟨hc1,hf1⟩:=zA6 w _ _ hb;have hz1:=zBH w _ hb;have hB1:=after1 w _ hb;go_wp2_with fail;refine(HR2 _).mono ?_;rintro e w2 ⟨rfl,hb2⟩;have hc2:=fun o=>(hb2.cell (p:=⟨w.heap.size,o,none⟩) hz1).trans (hc1 o);have hf2:=fun o=>(hb2.frozen (p:=⟨w.heap.size,o,none⟩) hz1).trans (hf1 o);have hz2:=kP hz1 hb2.size;have hB2:=hB1.trans (hb2.mono hB1.size)
     go_wp2_with fail;refine(zMZ T _ (HE.keep hB2) HNE HD (by omega) HV).mono ?_;rintro e w3 ⟨⟨x,u,p,rfl⟩,hb3⟩;have hc3:=fun o=>(hb3.cell (p:=⟨w.heap.size,o,none⟩) hz2).trans (hc2 o);have hf3:=fun o=>(hb3.frozen (p:=⟨w.heap.size,o,none⟩) hz2).trans (hf2 o);have hB3:=hB2.trans (hb3.mono hB2.size)
     go_wp2;refine bodyPost_ret (v:= .tuple #[tokV 0 [] 0 0,.int .i64 2]) (by simp [results,results190,go_sem,tokV,hc3]) rfl ⟨?_,?_⟩
     ·rw [zDP HT.out (by rw [HTL.out];rfl),kC HZ.out,kD (by have:=HV.out;omega)];rfl
     ·((repeat' (first|(with_reducible exact hB3)|(with_reducible exact Below.refl _ _)|(with_reducible refine Below.drew ?_)|(with_reducible refine below_drewN ?_ _)|(with_reducible refine Below.alloc ?_ ?_ _)|(with_reducible refine Below.setCell ?_ ?_ _)))<;>(simp<;>omega))
end Go.Proofs.YtcnmfcgmnkncaaaGreatDoor
