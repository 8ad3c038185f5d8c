/-
  LexProgF, LexProgG, LexProgH, LexFmt, LexLawScans, TrProgA, CoConst.
-/
import Derived.Test.YtcnmfcgmnkncaaaGreatDoorX5
import Derived.Maps.Own
import Derived.Maps.Views
import Derived.StillTailTactics
set_option maxRecDepth 100000
set_option maxHeartbeats 40000000
open Go.Proofs.Tryz
namespace Go.Proofs.YtcnmfcgmnkncaaaGreatDoor
section
open Go.RowKit Go.Maps
def fnV (n:Nat):Value:= .func (.func n) #[] #[]
def fnTag (v:Value):Option (DataW Unit × List MemPlace):=
 match v with
 | .func (.func n) a b=>if a.size=0/\b.size=0/\n≠0 then some (.lit (.int .i64 n),[]) else none
 | .nilFunc=>some (.lit (.int .i64 0),[])
 |_=>none
theorem zR0 (n:Nat) (h:n≠0):fnTag (fnV n)=some (.lit (.int .i64 n),[]):=by simp [fnTag,fnV,h]
theorem zRZ {v:Value} {n:Nat} {ps:List MemPlace} (h:fnTag v=some (.lit (.int .i64 n),ps)):v=if n=0 then .nilFunc else fnV n:=by
 unfold fnTag at h
 split at h
 ·rename_i m a b
  split at h
  ·rename_i hc;simp only [Option.some.injEq,Prod.mk.injEq,DataW.lit.injEq,Lit.int.injEq,true_and] at h;obtain⟨ha,hb,hm⟩:=hc;have hmn:m=n:=Int.ofNat_inj.1 h.1;subst hmn;rw [kC hm];unfold fnV;rw [Array.eq_empty_of_size_eq_zero ha,Array.eq_empty_of_size_eq_zero hb]
  ·cases h
 ·simp only [Option.some.injEq,Prod.mk.injEq,DataW.lit.injEq,Lit.int.injEq,true_and] at h;have h0:n=0:=(Int.ofNat_inj.1 h.1).symm;rw [kD h0]
 ·cases h
theorem keyU8:Keyed prog 5:=int_keyed underlying5
theorem wfU8 (c:UInt8):(Lit.int .u8 c.toNat).wf=true:=by
 have:=c.toNat_lt;have h1:IntKind.min .u8=0:=by decide
 have h2:IntKind.max .u8=255:=by decide
 simp only [Lit.wf,h1,h2,kW,decide_eq_true_eq];omega
theorem keyOfU8 (c:UInt8):keyOf prog 5 (.int .u8 c.toNat)=some (.int .u8 c.toNat):=
 keyOf_int_mk underlying5 (wfU8 c)
def TableAt (w:World) (M n:Nat) (f:UInt8->Nat):Prop:=
 ∃D:DataW Unit,IsMap D/\w.ownsMap prog 5 fnTag M n D/\∀c:UInt8,D.atKey (.int .u8 c.toNat) (.lit (.int .i64 0))= .lit (.int .i64 (f c))
theorem key_ne {a b:UInt8} (h:a≠b):(Lit.int .u8 a.toNat)≠(Lit.int .u8 b.toNat):=by
 intro e;simp only [Lit.int.injEq,true_and] at e;exact h (UInt8.toNat_inj.1 (by omega))
theorem zCP {a b c:World} {r:Option Nat} (h:a.grownBy b r) (k:b.grownBy c r):a.grownBy c r:=
 ⟨k.os.trans h.os,k.tape.trans h.tape,k.output.trans h.output,kG h.size k.size,fun i hi hr=>(k.block i (kP hi h.size) hr).trans (h.block i hi hr)⟩
theorem grown_refl (w:World) (r:Option Nat):w.grownBy w r:=⟨rfl,rfl,rfl,kL _,fun _ _ _=>rfl⟩
theorem zPH {a b:World} {r:Option Nat} (h:a.grownBy b r):a.grownBy b.drew r:=⟨h.os,h.tape,h.output,h.size,h.block⟩
def putF (s:BA) (t k:Nat) (f:UInt8->Nat) (c:UInt8):Nat:=if (s.data.toList.take k).contains c then t else f c
theorem zQY (s:BA) (t:Nat) (f:UInt8->Nat):putF s t 0 f=f:=by funext c;unfold putF;simp
theorem zQZ (s:BA) (t k:Nat) (f:UInt8->Nat) (h:k<s.size) (c:UInt8):putF s t (k+1) f c=if c=s[k] then t else putF s t k f c:=by
 unfold putF;rw [zQA s k h];by_cases e:c=s[k]
 ·rw [kD e,kD (by rw [e];simp)]
 ·rw [kC e]
  congr 1
  simp [List.mem_append,e]
theorem zGU {w:World} {P:Program} {k:TypeId} {R:Value->Option (DataW Unit × List MemPlace)} {M n cb:Nat} {D:DataW Unit} {v:Value} (h:w.cell? ⟨cb,0,none⟩=some v) (hM:w.ownsMap P k R M n D):cb≠M:=by
 intro e;subst e;obtain⟨es,clock,hb,_⟩:=hM;unfold World.cell? at h;simp only [hb] at h;cases h
theorem zMT (s:BA) (t cb M n:Nat) (f:UInt8->Nat) (w:World) (ht:t≠0) (hs:s.size<=1000) (hn:n<=1000) (hcb:w.cell? ⟨cb,0,none⟩=some (.map (some M))) (hM:TableAt w M n f):
 Calls prog 189 #[.string s,fnV t,.pointer (some ⟨cb,0,none⟩)] w fun e w'=>e= .returned (.tuple #[])/\TableAt w' M (n+s.size) (putF s t s.size f)/\w.grownBy w' (some M):=by
 have hne0:cb≠M:=by obtain⟨D,_,hown,_⟩:=hM;exact zGU hcb hown
 go_in;go_wp2
 go_loopw [8] (fun i wr=>∃k:Nat,k<=s.size/\i= .int .i64 k/\TableAt wr M (n+k) (putF s t k f)/\w.grownBy wr (some M)) (fun i _=>s.size -(intOf i).toNat)
 case atStart=>exact ⟨0,kO _,rfl,by rw [zQY];exact hM,grown_refl _ _⟩
 case round=>
  obtain⟨k,hk,rfl,hT,hg⟩:=hrel;by_cases hlt:k<s.size
  ·have hT2:=zh hT;have hG:=zh hg;clear hT hg;obtain⟨D,hD,hown,hat⟩:=hT2.out;have hcell:=hG.cell hcb (by simpa using hne0);have HAT:=zh hat;clear hat;go_wp2
   go_still_tail 5,(by kernel_rfl)
   refine wpList_mapUpdate_own _ rfl _ _ _ 218 rfl 5 221 keyU8 underlying218 fnTag M (n+k) D rfl hown.drew (by unfold maxLen;omega) (.int .u8 s[k].toNat) (fnV t) (.int .u8 s[k].toNat) rfl rfl (keyOfU8 _) (.lit (.int .i64 t)) [] (zR0 t ht) ?_;intro w1 hown1 hgrow1;go_wp2;go_roundw
   case rel=>
    refine⟨k+1,by omega,by go_num,⟨_,hD.put _ _,hown1,fun c=>?_⟩,zCP (zPH hG) hgrow1⟩;rw [zQZ s t k f hlt];by_cases e:c=s[k]
    ·rw [kD e,e];exact atKey_put_same hD ((keyU8).key (keyOfU8 _)) _ _
    ·rw [kC e,atKey_put_other (key_ne e)];exact HAT c
   case measure=>simp [intOf];omega
  ·go_wp2;go_end0
   exact⟨rfl,by have e:k=s.size:=by omega
                subst e;exact hT,hg⟩
def symStarts:List UInt8:= [33,37,40,41,42,43,44,45,46,47,59,60,61,62,123,125]
def tableF (c:UInt8):Nat:=if Lex.letter c then 191 else if Lex.digit c then 190 else if symStarts.contains c then 192 else 0
theorem zQC (c:UInt8):putF ⟨#[33,37,40,41,42,43,44,45,46,47,59,60,61,62,123,125]⟩ 192 16 (putF ⟨#[97,98,99,100,101,102,103,104,105,106,107,108,109,110,111,112,113,114,115,116,117,118,119,120,121,122,65,66,67,68,69,70,71,72,73,74,75,76,77,78,79,80,81,82,83,84,85,86,87,88,89,90]⟩ 191 52 (putF ⟨#[48,49,50,51,52,53,54,55,56,57]⟩ 190 10 (fun _=>0))) c=tableF c:=by
 revert c;apply zEB;decide+kernel
theorem zOQ (w:World):TableAt (w.alloc (.map #[] 0)) w.heap.size 0 (fun _=>0):=
 ⟨.map [],isMap_empty,World.ownsMap_made w _ _ _,fun _=>rfl⟩
theorem TableAt.alloc {w:World} {M n:Nat} {f:UInt8->Nat} (h:TableAt w M n f) (o:Obj):TableAt (w.alloc o) M n f:=by
 obtain⟨D,h1,h2,h3⟩:=h;exact⟨D,h1,h2.alloc o,h3⟩
theorem TableAt.keep {w w':World} {M n:Nat} {f:UInt8->Nat} (h:TableAt w M n f) (hb:Below w.heap.size w w'):TableAt w' M n f:=by
 obtain⟨D,h1,h2,h3⟩:=h;exact⟨D,h1,h2.kept (row:=none) (zDV hb) (by simp),h3⟩
theorem zK5 (w:World):
 Calls prog 174 #[] w fun e w'=>e= .returned (.map (some w.heap.size))/\TableAt w' w.heap.size 78 tableF/\Below w.heap.size w w':=by
 have hmm:=@run_makeMap prog;go_in;go_wp2_with fail;refine(zMT _ 190 _ w.heap.size 0 (fun _=>0) _ (by decide) (by decide) (by decide) (by simp) ((zOQ w).alloc _)).mono ?_;rintro e w1 ⟨rfl,hT1,hg1⟩;have hc1:=hg1.cell (a:=⟨w.heap.size+1,0,none⟩) (v:= .map (some w.heap.size)) (by simp) (by simp);have HT1:=zh hT1;clear hT1;go_wp2_with fail;refine(zMT _ 191 _ w.heap.size _ _ _ (by decide) (by decide) (by decide) hc1 HT1).mono ?_;rintro e w2 ⟨rfl,hT2,hg2⟩;have hc2:=hg2.cell (a:=⟨w.heap.size+1,0,none⟩) (v:= .map (some w.heap.size)) hc1 (by simp);have HT2:=zh hT2;clear hT2;go_wp2_with fail;refine(zMT _ 192 _ w.heap.size _ _ _ (by decide) (by decide) (by decide) hc2 HT2).mono ?_;rintro e w3 ⟨rfl,hT3,hg3⟩;have hc3:=hg3.cell (a:=⟨w.heap.size+1,0,none⟩) (v:= .map (some w.heap.size)) hc2 (by simp);have HT3:=zh hT3;clear hT3;go_wp2;go_ret;refine⟨rfl,?_,?_⟩
 ·obtain⟨D,d1,d2,d3⟩:=HT3.out;exact⟨D,d1,d2,fun c=>by rw [d3 c];exact congrArg (fun n:Nat=>DataW.lit (.int .i64 n)) (zQC c)⟩
 ·exact(((((Below.refl _ _).alloc (kL _) _).alloc (by simp) _).grown hg1 (by simp<;>omega) (fun q hq=>by cases hq;exact kL _)).grown hg2 (by have:=hg1.size;simp at this;omega) (fun q hq=>by cases hq;exact kL _)).grown hg3 (by have:=hg1.size;have:=hg2.size;simp at*;omega) (fun q hq=>by cases hq;exact kL _)
theorem fnZero (w:World):(zeroValue 221).run prog w= .ok .nilFunc w:=by kernel_rfl
theorem zRY:fnTag .nilFunc=some (.lit (.int .i64 0),[]):=rfl
theorem zRX (w:World):(binOp .eql 221 .nilFunc .nilFunc).run prog w= .ok (.bool true) w:=by kernel_rfl
theorem zT1 (n:Nat) (w:World):(binOp .eql 221 (.func (.func n) #[] #[]) .nilFunc).run prog w= .ok (.bool false) w:=by kernel_rfl
theorem zOR {w:World} {M n:Nat} {f:UInt8->Nat} (h:TableAt w M n f) (c:UInt8):
 (Instr.lookup 218 (.map (some M)) (.int .u8 c.toNat) false).run prog w= .ok (if f c=0 then .nilFunc else fnV (f c)) w:=by
 obtain⟨D,h1,h2,h3⟩:=h;obtain⟨v,ps,hrun,hv⟩:=h2.lookup keyU8 underlying218 (fnZero w) zRY (keyOfU8 c);rw [h3 c] at hv;rw [hrun,zRZ hv]
theorem zS1:∀x∈Lex.symbols,symStarts.contains (x.headD 0)=true:=by decide+kernel
theorem zTM {c:UInt8} {r:List UInt8} (h:tableF c=0):Lex.next (c::r)= .bad 3:=by
 unfold tableF at h;unfold Lex.next;rw [List.headD_cons];by_cases h1:Lex.letter c=true
 ·rw [kD h1] at h;exact absurd h (by decide)
 ·rw [kC h1] at h |-;by_cases h2:Lex.digit c=true
  ·rw [kD h2] at h;exact absurd h (by decide)
  ·rw [kC h2] at h |-;by_cases h3:symStarts.contains c=true
   ·rw [kD h3] at h;exact absurd h (by decide)
   ·have hno:∀x,x.headD 0=c->Lex.symbols.contains x=false:=by
     intro x hx;rw [Bool.eq_false_iff];intro hc;rw [List.contains_iff_mem] at hc;have:=zS1 x hc;rw [hx] at this;exact h3 this
    refine zHL ?_ (hno _ rfl);rintro ⟨_,h5⟩;rw [hno ((c::r).take 2) (by simp)] at h5;cases h5
theorem zMW (x:BA) (c:UInt8) (r:List UInt8) (hl:x.data.toList=c::r) (hs:x.size<=16384):
 (tableF c=0/\Lex.next (c::r)= .bad 3)\/
 (tableF c=191/\∀w0,LexEnv w0->Calls prog 191 #[.string x] w0 fun e w'=>e= .returned (gotV 0 (Lex.next (c::r)))/\Below w0.heap.size w0 w')\/
 (tableF c=190/\∀w0,LexEnv w0->Calls prog 190 #[.string x] w0 fun e w'=>e= .returned (gotV 0 (Lex.next (c::r)))/\Below w0.heap.size w0 w')\/
 (tableF c=192/\∀w0,LexEnv w0->Calls prog 192 #[.string x] w0 fun e w'=>e= .returned (gotV 0 (Lex.next (c::r)))/\Below w0.heap.size w0 w'):=by
 have hpos:0<x.size:=by rw [Lib.size_eq,hl];simp
 by_cases h1:Lex.letter c=true
 ·refine .inr (.inl ⟨by unfold tableF;rw [kD h1],fun w0 hE=>?_⟩);have h:=name_any x c r w0 hE (by omega) hl h1;rw [hl] at h;unfold Lex.next;rw [List.headD_cons,kD h1];exact h
 ·by_cases h2:Lex.digit c=true
  ·refine .inr (.inr (.inl ⟨by unfold tableF;rw [kC h1,kD h2],fun w0 hE=>?_⟩));have h:=zO1 x c r w0 hE (by omega) hl h2;rw [hl] at h;unfold Lex.next;rw [List.headD_cons,kC h1,kD h2];exact h
  ·by_cases h3:symStarts.contains c=true
   ·refine .inr (.inr (.inr ⟨by unfold tableF;rw [kC h1,kC h2,kD h3],fun w0 hE=>?_⟩));have h:=zOS x w0 hE (by omega) hpos;rw [hl] at h;unfold Lex.next;rw [List.headD_cons,kC h1,kC h2];exact h
   ·have h0:tableF c=0:=by unfold tableF;rw [kC h1,kC h2,kC h3]
    exact .inl ⟨h0,zTM h0⟩
structure LoopInv (s:BA) (w:World) (M:Nat) (x:BA) (k:Nat) (ts:List Lex.Tok) (out:Value) (wr:World):Prop where
 le:k<=s.size
 text:x.data.toList=rest s k
 few:ts.length<=k
 own:wr.ownsRow w.heap.size 203 4 out ts.length (toksCells ts)
 below:Below w.heap.size w wr
 table:TableAt wr M 78 tableF
 same:∃f,(rest s k).length<=f/\Lex.scan s.data.toList=Lex.pre ts (Lex.scanF s.size f (rest s k))
theorem zOI {s x:BA} {w:World} {M k:Nat} {ts:List Lex.Tok} {out:Value} {wr:World} {c:UInt8} {r:List UInt8} {er:Nat} (I:LoopInv s w M x k ts out wr) (hx:x.data.toList=c::r) (hG:Lex.next (c::r)= .bad er):
 Lex.scan s.data.toList= .bad k er:=by
 obtain⟨f,hf,hsame⟩:=I.same;have hr:=I.text;rw [hx] at hr;have hrl:=zDO s k;rw [<-hr] at hf hsame hrl;have hk:=I.le;rw [kI] at hf;obtain⟨g,rfl⟩:∃g,f=g+1:=⟨f -1,by omega⟩;rw [hsame,Lex.zFF hG,hrl];simp only [Lex.pre]
 congr 1
 omega
theorem zEZ {w:World} {B M n:Nat} {e:TypeId} {size m:Nat} {v:Value} {xs:List Value} {f:UInt8->Nat} (h:w.ownsRow B e size v m xs) (hM:TableAt w M n f):v.ownBlock≠some M:=by
 intro hb;obtain⟨D,_,⟨es,clock,hm,_⟩,_⟩:=hM;rcases h.2 with ⟨rfl,_⟩|⟨g,cap,cur,rfl,_,hg,_⟩
 ·simp [Value.ownBlock] at hb
 ·simp only [Value.ownBlock,Option.some.injEq] at hb;rw [hb,hm] at hg;cases hg
theorem TableAt.grown {w w':World} {M n:Nat} {f:UInt8->Nat} {row:Option Nat} (h:TableAt w M n f) (hg:w.grownBy w' row) (hne:row≠some M):TableAt w' M n f:=by
 obtain⟨D,h1,h2,h3⟩:=h;exact⟨D,h1,h2.kept hg (fun e=>hne e.symm),h3⟩
theorem zHX {s x:BA} {w:World} {M k:Nat} {ts:List Lex.Tok} {out:Value} {wr:World} {c:UInt8} {r:List UInt8} {kd:Nat} {tx:List UInt8} {vl:Nat} (I:LoopInv s w M x k ts out wr) (hx:x.data.toList=c::r) (hG:Lex.next (c::r)= .tok kd tx vl)
 {x':BA} (hx':x'.data.toList=Lex.skip false ((c::r).drop tx.length)) {v':Value} {wb:World} (hown:wb.ownsRow w.heap.size 203 4 v' (ts.length+1) (toksCells ts++tokCells ⟨kd,tx,vl,k⟩)) (hbel:Below w.heap.size w wb) (htab:TableAt wb M 78 tableF):
 x'.size<x.size/\LoopInv s w M x' (s.size -x'.size) (ts++ [⟨kd,tx,vl,k⟩]) v' wb:=by
 obtain⟨f,hf,hsame⟩:=I.same;have hr:=I.text;rw [hx] at hr;have hrl:=zDO s k;rw [<-hr] at hf hsame hrl;have hk:=I.le;have hfew:=I.few;obtain⟨htx,hp,hle⟩:=Lex.zCO hG;rw [kI] at hf;have hsk:=Lex.zBR false ((c::r).drop tx.length);rw [List.length_drop] at hsk;have hxs:x'.size=(Lex.skip false ((c::r).drop tx.length)).length:=by rw [Lib.size_eq,hx']
 have hxx:x.size=(c::r).length:=by rw [Lib.size_eq,hx]
 obtain⟨g,rfl⟩:∃g,f=g+1:=⟨f -1,by rw [kI] at hrl;omega⟩;have hdrop:(c::r).drop tx.length=rest s (k+tx.length):=by rw [hr];unfold rest;rw [List.drop_drop]
 have hrs:rest s (s.size -x'.size)=Lex.skip false ((c::r).drop tx.length):=by
  rw [hxs,hdrop];exact zLB s (k+tx.length) (by omega)
 refine⟨by omega,by omega,by rw [hx',hrs],by rw [kN,List.length_singleton];omega,by rw [kN,zEO];exact hown,hbel,htab,g,by rw [hrs];rw [kI] at hle hsk;omega,?_⟩;rw [hsame,Lex.zHM hG,hrs,hrl,show s.size -(s.size -k)=k by omega]
theorem zIQ (s:BA) (w:World) (hE:LexEnv w) (hl:s.size<=16384):
 Calls prog 147 #[.string s] w (ScanPost s w):=by
 obtain⟨i0,hi,hz0,hz1,hz2⟩:=info_parts tokInfo;have feq:=zRX;have feq2:=zT1;have HE:=zh hE;clear hE;go_in;go_wp2_with fail;refine(zK5 _).mono ?_;rintro e w1 ⟨rfl,hT1,hb1⟩;have HT1:=zh hT1;clear hT1;have hs1:=hb1.size;go_wp2_with fail;refine(zGY _ _).mono ?_;rintro e w2 ⟨rfl,hb2⟩;have hs2:=hb2.size;go_wp2_with fail
 go_loopw [5,7] (fun out v wr=>∃(x:BA) (k:Nat) (ts:List Lex.Tok),v= .string x/\LoopInv s w w.heap.size x k ts out wr) (fun _ v _=>strLen v)
 case atStart=>
  have h0:rest s 0=s.data.toList:=by unfold rest;rw [List.drop_zero]
  have hk:=zLB s 0 (kO _);rw [h0] at hk;have hle:=Lex.zBR false s.data.toList;rw [<-Lib.size_eq] at hle;refine⟨_,s.size -(Lex.skip false s.data.toList).length,[],rfl,?_⟩;refine⟨by omega,hk.symm,by simp,World.ownsRow_nil _ _ _ _,(hb1.trans (hb2.mono hs1)),HT1.keep hb2,s.size,by rw [zDO];omega,?_⟩;rw [Lex.zMY];unfold Lex.scan;rw [kC (by rw [<-Lib.size_eq];omega),<-Lib.size_eq,hk]
 case round=>
  obtain⟨x,k,ts,rfl,I⟩:=hrel;have hk:=I.le;have hfew:=I.few;have hown:=I.own;have hbel:=I.below;have hsz:=hbel.size;have hxl:x.size=s.size -k:=by rw [Lib.size_eq,I.text,zDO]
  have II:=zh I;cases hr:rest s k with
  |nil=>
   have hrl:=zDO s k;rw [hr,kQ] at hrl;have hx0:x.toList.isEmpty=true:=by rw [Lib.toList_data,I.text,hr];rfl
   have hx1:x.toList= []:=by rw [Lib.toList_data,I.text,hr]
   have HR:=zh hr;have hx2:x.size=0:=(by omega);have hke:s.size<=k:=(by omega);clear hr I hrl hxl;go_wp2_with (at_builtin;refine wpList_append_own _ rfl _ _ 199 rfl w.heap.size 203 i0 (.agg #[.int .i64 0,.string ⟨#[]⟩,.int .i64 0,.int .i64 0]) 4 40 underlying199 hi hz0 hz1 hz2 rfl (by decide) _ _ _ rfl (hown.alloc _) ⟨wr.heap.size,0,none⟩ 1 1 [.int .i64 0,.string ⟨#[]⟩,.int .i64 0,.int .i64 s.size] rfl rfl (zBN (cs:= #[.int .i64 0,.string ⟨#[]⟩,.int .i64 0,.int .i64 s.size]) rfl (by simp)) (by simp [Value.oneCell']) (by unfold maxLen;omega) (by omega) (by simp<;>omega) ?_;intro v' wa howna hgrow hnil);go_ret3;have J:=II.out;refine .inr ⟨ts++ [⟨0,[],0,s.size⟩],v',?_,rfl,?_,?_⟩
   ·obtain⟨f,hf,hsame⟩:=J.same;rw [hsame,HR.out,Lex.zC5];rfl
   ·rw [zEO,kN];exact howna
   ·exact(hbel.alloc (by omega) _).grown hgrow (by simp<;>omega) fun q hq=>(hown.lt q hq).1
  |cons c r=>
   have hrl:=zDO s k;rw [hr,kI] at hrl;have hlt:k<s.size:=(by omega);have hxt:x.data.toList=c::r:=by rw [I.text,hr]
   have hx0:x.toList.isEmpty=false:=by rw [Lib.toList_data,hxt];rfl
   have hget:∀h:0<x.size,x[0]'h=c:=by
    intro h;have h2:=zN3 x h;rw [<-h2,hxt];rfl
   have hpos:0<x.size:=(by omega);have hx16:x.size<=16384:=(by omega);have hlook:=zOR I.table c;have hrd:=zMW x c r hxt hx16;have hat:((s.size:Int) - (x.size:Int))=(k:Int):=(by omega);have HXT:=zh hxt;have HXL:=zh hxl;have HRL:=zh hrl;have HR:=zh hr;clear hr hrl hxl hxt I;rcases hrd with ⟨h0,h1⟩|⟨h0,hf⟩|⟨h0,hf⟩|⟨h0,hf⟩
   ·rw [h0,kD rfl] at hlook;have H1:=zh h1;clear h0 h1;go_wp2_with fail;go_ret3;exact .inl ⟨k,3,zOI II HXT H1,rfl,hbel⟩
   ·rw [h0,kC (by decide)] at hlook;unfold fnV at hlook;cases hG:Lex.next (c::r) with
    |bad er=>
     have hne:((er:Int) != 0)=true:=by
      rw [bne_iff_ne];have:=Lex.zG3 hG;omega
     have hN:∀w0,LexEnv w0->Calls prog 191 #[.string x] w0 fun e w'=>e= .returned (.tuple #[.agg #[.int .i64 0,.string ⟨#[]⟩,.int .i64 0,.int .i64 0],.int .i64 er])/\Below w0.heap.size w0 w':=by
      intro w0 hE0;have h:=hf w0 hE0;rw [hG] at h;exact h
     have HN:=zh hN;have HG:=zh hG;clear hN hG hf h0;go_wp2_with (go_at_call 191;refine(HN _ (HE.keep hbel)).mono ?_;rintro e w3 ⟨rfl,hb3⟩);go_ret3;refine .inl ⟨k,er,zOI II HXT HG,rfl,?_⟩;exact(hbel.trans (hb3.mono (by omega))).alloc (by have:=hb3.size;omega) _
    |tok kd tx vl=>
     have hN:∀w0,LexEnv w0->Calls prog 191 #[.string x] w0 fun e w'=>e= .returned (.tuple #[.agg #[.int .i64 kd,.string ⟨tx.toArray⟩,.int .i64 vl,.int .i64 0],.int .i64 0])/\Below w0.heap.size w0 w':=by
      intro w0 hE0;have h:=hf w0 hE0;rw [hG] at h;exact h
     obtain⟨htx,hp,hle⟩:=Lex.zCO hG;rw [kI] at hle;have hle3:tx.length<=x.size:=by have h1:=HXL.out;have h2:=HRL.out;omega
     have HN:=zh hN;have HG:=zh hG;clear hN hG hf h0 htx hle;go_wp2_with (first|(go_at_call 191;refine(HN _ (HE.keep hbel)).mono ?_;rintro e w3 ⟨rfl,hb3⟩;have hown3:=zCD hown hb3;have hs3:=hb3.size)|(at_builtin;refine wpList_append_own _ rfl _ _ 199 rfl w.heap.size 203 i0 (.agg #[.int .i64 0,.string ⟨#[]⟩,.int .i64 0,.int .i64 0]) 4 40 underlying199 hi hz0 hz1 hz2 rfl (by decide) _ _ _ rfl (hown3.alloc _|>.alloc _) ⟨w3.heap.size+1,0,none⟩ 1 1 [.int .i64 kd,.string ⟨tx.toArray⟩,.int .i64 vl,.int .i64 k] rfl rfl (zBN (cs:= #[.int .i64 kd,.string ⟨tx.toArray⟩,.int .i64 vl,.int .i64 k]) rfl (by simp)) (by simp [Value.oneCell']) (by unfold maxLen;omega) (by omega) (by simp<;>omega) ?_;intro v' wa howna hgrow hnil;have hc2:=hgrow.cell (a:=⟨w3.heap.size,1,none⟩) (v:= .string ⟨tx.toArray⟩) (by simp) (fun e=>by have:=(hown.lt _ e.symm).2;simp at this;omega))|(go_at_call 175;refine(zGY _ _).mono ?_;rintro e w5 ⟨rfl,hb5⟩));have hsa:=hgrow.size;have hne5:=zEZ hown II.table;have hst:=zHX (x':=⟨(Lex.skip false (List.take (x.size -tx.length) (List.drop tx.length x.data.toList))).toArray⟩) II HXT HG (by show Lex.skip false _=_;rw [kR (by rw [List.length_drop,<-Lib.size_eq];omega),HXT.out]) (zCD howna hb5)
      (((((hbel.trans (hb3.mono (by omega))).alloc (by omega) _).alloc (by simp<;>omega) _).grown hgrow (by simp<;>omega) fun q hq=>(hown.lt q hq).1).trans (hb5.mono (by simp at hsa;omega)))
      (((((II.table.keep hb3).alloc _).alloc _).grown hgrow hne5).keep hb5)
     go_roundw
     case rel=>exact ⟨_,_,_,rfl,hst.2⟩
     case measure=>exact hst.1
   ·rw [h0,kC (by decide)] at hlook;unfold fnV at hlook;cases hG:Lex.next (c::r) with
    |bad er=>
     have hne:((er:Int) != 0)=true:=by
      rw [bne_iff_ne];have:=Lex.zG3 hG;omega
     have hN:∀w0,LexEnv w0->Calls prog 190 #[.string x] w0 fun e w'=>e= .returned (.tuple #[.agg #[.int .i64 0,.string ⟨#[]⟩,.int .i64 0,.int .i64 0],.int .i64 er])/\Below w0.heap.size w0 w':=by
      intro w0 hE0;have h:=hf w0 hE0;rw [hG] at h;exact h
     have HN:=zh hN;have HG:=zh hG;clear hN hG hf h0;go_wp2_with (go_at_call 190;refine(HN _ (HE.keep hbel)).mono ?_;rintro e w3 ⟨rfl,hb3⟩);go_ret3;refine .inl ⟨k,er,zOI II HXT HG,rfl,?_⟩;exact(hbel.trans (hb3.mono (by omega))).alloc (by have:=hb3.size;omega) _
    |tok kd tx vl=>
     have hN:∀w0,LexEnv w0->Calls prog 190 #[.string x] w0 fun e w'=>e= .returned (.tuple #[.agg #[.int .i64 kd,.string ⟨tx.toArray⟩,.int .i64 vl,.int .i64 0],.int .i64 0])/\Below w0.heap.size w0 w':=by
      intro w0 hE0;have h:=hf w0 hE0;rw [hG] at h;exact h
     obtain⟨htx,hp,hle⟩:=Lex.zCO hG;rw [kI] at hle;have hle3:tx.length<=x.size:=by have h1:=HXL.out;have h2:=HRL.out;omega
     have HN:=zh hN;have HG:=zh hG;clear hN hG hf h0 htx hle;go_wp2_with (first|(go_at_call 190;refine(HN _ (HE.keep hbel)).mono ?_;rintro e w3 ⟨rfl,hb3⟩;have hown3:=zCD hown hb3;have hs3:=hb3.size)|(at_builtin;refine wpList_append_own _ rfl _ _ 199 rfl w.heap.size 203 i0 (.agg #[.int .i64 0,.string ⟨#[]⟩,.int .i64 0,.int .i64 0]) 4 40 underlying199 hi hz0 hz1 hz2 rfl (by decide) _ _ _ rfl (hown3.alloc _|>.alloc _) ⟨w3.heap.size+1,0,none⟩ 1 1 [.int .i64 kd,.string ⟨tx.toArray⟩,.int .i64 vl,.int .i64 k] rfl rfl (zBN (cs:= #[.int .i64 kd,.string ⟨tx.toArray⟩,.int .i64 vl,.int .i64 k]) rfl (by simp)) (by simp [Value.oneCell']) (by unfold maxLen;omega) (by omega) (by simp<;>omega) ?_;intro v' wa howna hgrow hnil;have hc2:=hgrow.cell (a:=⟨w3.heap.size,1,none⟩) (v:= .string ⟨tx.toArray⟩) (by simp) (fun e=>by have:=(hown.lt _ e.symm).2;simp at this;omega))|(go_at_call 175;refine(zGY _ _).mono ?_;rintro e w5 ⟨rfl,hb5⟩));have hsa:=hgrow.size;have hne5:=zEZ hown II.table;have hst:=zHX (x':=⟨(Lex.skip false (List.take (x.size -tx.length) (List.drop tx.length x.data.toList))).toArray⟩) II HXT HG (by show Lex.skip false _=_;rw [kR (by rw [List.length_drop,<-Lib.size_eq];omega),HXT.out]) (zCD howna hb5)
      (((((hbel.trans (hb3.mono (by omega))).alloc (by omega) _).alloc (by simp<;>omega) _).grown hgrow (by simp<;>omega) fun q hq=>(hown.lt q hq).1).trans (hb5.mono (by simp at hsa;omega)))
      (((((II.table.keep hb3).alloc _).alloc _).grown hgrow hne5).keep hb5)
     go_roundw
     case rel=>exact ⟨_,_,_,rfl,hst.2⟩
     case measure=>exact hst.1
   ·rw [h0,kC (by decide)] at hlook;unfold fnV at hlook;cases hG:Lex.next (c::r) with
    |bad er=>
     have hne:((er:Int) != 0)=true:=by
      rw [bne_iff_ne];have:=Lex.zG3 hG;omega
     have hN:∀w0,LexEnv w0->Calls prog 192 #[.string x] w0 fun e w'=>e= .returned (.tuple #[.agg #[.int .i64 0,.string ⟨#[]⟩,.int .i64 0,.int .i64 0],.int .i64 er])/\Below w0.heap.size w0 w':=by
      intro w0 hE0;have h:=hf w0 hE0;rw [hG] at h;exact h
     have HN:=zh hN;have HG:=zh hG;clear hN hG hf h0;go_wp2_with (go_at_call 192;refine(HN _ (HE.keep hbel)).mono ?_;rintro e w3 ⟨rfl,hb3⟩);go_ret3;refine .inl ⟨k,er,zOI II HXT HG,rfl,?_⟩;exact(hbel.trans (hb3.mono (by omega))).alloc (by have:=hb3.size;omega) _
    |tok kd tx vl=>
     have hN:∀w0,LexEnv w0->Calls prog 192 #[.string x] w0 fun e w'=>e= .returned (.tuple #[.agg #[.int .i64 kd,.string ⟨tx.toArray⟩,.int .i64 vl,.int .i64 0],.int .i64 0])/\Below w0.heap.size w0 w':=by
      intro w0 hE0;have h:=hf w0 hE0;rw [hG] at h;exact h
     obtain⟨htx,hp,hle⟩:=Lex.zCO hG;rw [kI] at hle;have hle3:tx.length<=x.size:=by have h1:=HXL.out;have h2:=HRL.out;omega
     have HN:=zh hN;have HG:=zh hG;clear hN hG hf h0 htx hle;go_wp2_with (first|(go_at_call 192;refine(HN _ (HE.keep hbel)).mono ?_;rintro e w3 ⟨rfl,hb3⟩;have hown3:=zCD hown hb3;have hs3:=hb3.size)|(at_builtin;refine wpList_append_own _ rfl _ _ 199 rfl w.heap.size 203 i0 (.agg #[.int .i64 0,.string ⟨#[]⟩,.int .i64 0,.int .i64 0]) 4 40 underlying199 hi hz0 hz1 hz2 rfl (by decide) _ _ _ rfl (hown3.alloc _|>.alloc _) ⟨w3.heap.size+1,0,none⟩ 1 1 [.int .i64 kd,.string ⟨tx.toArray⟩,.int .i64 vl,.int .i64 k] rfl rfl (zBN (cs:= #[.int .i64 kd,.string ⟨tx.toArray⟩,.int .i64 vl,.int .i64 k]) rfl (by simp)) (by simp [Value.oneCell']) (by unfold maxLen;omega) (by omega) (by simp<;>omega) ?_;intro v' wa howna hgrow hnil;have hc2:=hgrow.cell (a:=⟨w3.heap.size,1,none⟩) (v:= .string ⟨tx.toArray⟩) (by simp) (fun e=>by have:=(hown.lt _ e.symm).2;simp at this;omega))|(go_at_call 175;refine(zGY _ _).mono ?_;rintro e w5 ⟨rfl,hb5⟩));have hsa:=hgrow.size;have hne5:=zEZ hown II.table;have hst:=zHX (x':=⟨(Lex.skip false (List.take (x.size -tx.length) (List.drop tx.length x.data.toList))).toArray⟩) II HXT HG (by show Lex.skip false _=_;rw [kR (by rw [List.length_drop,<-Lib.size_eq];omega),HXT.out]) (zCD howna hb5)
      (((((hbel.trans (hb3.mono (by omega))).alloc (by omega) _).alloc (by simp<;>omega) _).grown hgrow (by simp<;>omega) fun q hq=>(hown.lt q hq).1).trans (hb5.mono (by simp at hsa;omega)))
      (((((II.table.keep hb3).alloc _).alloc _).grown hgrow hne5).keep hb5)
     go_roundw
     case rel=>exact ⟨_,_,_,rfl,hst.2⟩
     case measure=>exact hst.1
end
section
open Go.RowKit
theorem zE7:∀(ts:List Lex.Tok) (j:Nat) (t:Lex.Tok),ts[j]? =some t->∀i,i<4->(toksCells ts)[j*4+i]? =(tokCells t)[i]?
 | [],j,t,h,_,_=>by simp at h
 |a::ts,0,t,h,i,hi=>by
  simp only [List.getElem?_cons_zero,Option.some.injEq] at h;subst h
  show(tokCells a++toksCells ts)[0*4+i]? =_
  rw [Nat.zero_mul,Nat.zero_add,List.getElem?_append_left (by simp [tokCells];omega)]
 |a::ts,j+1,t,h,i,hi=>by
  simp only [List.getElem?_cons_succ] at h
  show(tokCells a++toksCells ts)[(j+1)*4+i]? =_
  have hl:(tokCells a).length=4:=rfl;rw [List.getElem?_append_right (by omega),hl,show(j+1)*4+i -4=j*4+i by omega];exact zE7 ts j t h i hi
theorem zMP {w:World} {B:Nat} {v:Value} {ts:List Lex.Tok} (h:w.ownsRow B 203 4 v ts.length (toksCells ts)) (hne:ts≠ []):
 ∃g cap,v= .slice (some ⟨g,0,none⟩) ts.length cap/\ts.length<=cap/\ToksAt w g ts/\B<=g/\g<w.heap.size:=by
 have hc:=h;rcases h.2 with ⟨_,h0⟩|⟨g,cap,cur,rfl,hb,hg,hn,_⟩
 ·exact absurd (List.eq_nil_of_length_eq_zero h0) hne
 ·refine⟨g,cap,rfl,hn,?_,hb,(Array.getElem?_eq_some_iff.1 hg).1⟩;intro j t hj;have hcell:=fun i hi u (hu:(tokCells t)[i]? =some u)=>hc.cells (g:=g) rfl (j*4+i) u ((zE7 ts j t hj i hi).trans hu)
  have hadd:∀m,(⟨g,0,none⟩:Addr).add m=⟨g,m,none⟩:=by intro m;unfold Addr.add;split<;>simp_all
  simp only [hadd] at hcell;exact⟨hcell 0 (by omega) _ rfl,hcell 1 (by omega) _ rfl,hcell 2 (by omega) _ rfl,hcell 3 (by omega) _ rfl⟩
theorem ToksAt.keep {w w':World} {B b:Nat} {ts:List Lex.Tok} (h:ToksAt w b ts) (hb:Below B w w') (hlt:b<B):ToksAt w' b ts:=by
 intro j t hj;obtain⟨h0,h1,h2,h3⟩:=h j t hj;exact⟨by rw [hb.cell hlt];exact h0,by rw [hb.cell hlt];exact h1,by rw [hb.cell hlt];exact h2,by rw [hb.cell hlt];exact h3⟩
def texts (ts:List Lex.Tok):List (List UInt8):=(ts.filter fun t=>decide (t.kind≠0)).map (·.text)
theorem strInfo:(prog.info? 9).map (fun i=>(i.zero,i.size,i.bytes))=some (some (.string ⟨#[]⟩),1,16):=by kernel_rfl
theorem zTE (n:Nat):∀(f:Nat) (l:List UInt8) (ts:List Lex.Tok),Lex.scanF n f l= .toks ts->ts≠ []
 |f,[],ts,h=>by rw [Lex.zC5] at h;cases h;simp
 |0,_ ::_,ts,h=>by cases h
 |f+1,c::r,ts,h=>by
  cases hn:Lex.next (c::r) with
  |bad e=>rw [Lex.zFF hn] at h;cases h
  |tok k t v=>
   have h2:=Lex.zHM (n:=n) (f:=f) hn [];rw [Lex.zMY,h] at h2;cases hs:Lex.scanF n f (Lex.skip false ((c::r).drop t.length)) with
   |bad a e=>rw [hs] at h2;cases h2
   |toks l=>rw [hs] at h2;cases h2;simp
theorem zQO {l:List UInt8} {ts:List Lex.Tok} (h:Lex.scan l= .toks ts):ts≠ []:=by
 unfold Lex.scan at h
 split at h
 ·cases h
 ·exact zTE _ _ _ _ h
theorem zK7 (n:Nat):∀(f:Nat) (l:List UInt8) (ts:List Lex.Tok),Lex.scanF n f l= .toks ts->ts.length<=l.length+1
 |f,[],ts,h=>by rw [Lex.zC5] at h;cases h;simp
 |0,_ ::_,ts,h=>by cases h
 |f+1,c::r,ts,h=>by
  cases hn:Lex.next (c::r) with
  |bad e=>rw [Lex.zFF hn] at h;cases h
  |tok k t v=>
   have h2:=Lex.zHM (n:=n) (f:=f) hn [];rw [Lex.zMY,h] at h2;have hle:=Lex.zBR false ((c::r).drop t.length);rw [List.length_drop] at hle;have hp:=(Lex.zCO hn).2.1;cases hs:Lex.scanF n f (Lex.skip false ((c::r).drop t.length)) with
   |bad a e=>rw [hs] at h2;cases h2
   |toks l=>
    have ih:=zK7 n f _ l hs;rw [hs] at h2;cases h2;simp only [List.nil_append,kN,kQ,kI] at hle |-;omega
theorem zTC {l:List UInt8} {ts:List Lex.Tok} (h:Lex.scan l= .toks ts):ts.length<=16385:=by
 unfold Lex.scan at h
 split at h
 ·cases h
 ·have h1:=zK7 _ _ _ _ h;have h2:=Lex.zBR false l;omega
theorem zLD {s:BA} {w w':World} {e:Ending} {ts:List Lex.Tok} (hp:ScanPost s w e w') (h:Lex.scan s.data.toList= .toks ts):
 ∃g cap,e= .returned (.tuple #[.slice (some ⟨g,0,none⟩) ts.length cap,.int .i64 0,.int .i64 0])/\ToksAt w' g ts/\w.heap.size<=g/\g<w'.heap.size/\Below w.heap.size w w':=by
 rcases hp with ⟨a,er,hb,_⟩|⟨us,v,ht,rfl,hown,hbel⟩
 ·rw [h] at hb;cases hb
 ·rw [h] at ht;cases ht;obtain⟨g,cap,rfl,_,hta,h1,h2⟩:=zMP hown (zQO h);exact⟨g,cap,rfl,hta,h1,h2,hbel⟩
theorem zTJ {s:BA} {w w':World} {e:Ending} {a er:Nat} (hp:ScanPost s w e w') (h:Lex.scan s.data.toList= .bad a er):
 e= .returned (.tuple #[.slice none 0 0,.int .i64 a,.int .i64 er])/\Below w.heap.size w w':=by
 rcases hp with ⟨a',er',hb,rfl,hbel⟩|⟨us,v,ht,_⟩
 ·rw [h] at hb;cases hb;exact⟨rfl,hbel⟩
 ·rw [h] at ht;cases ht
theorem zUX {k:Nat} {l:List UInt8} {t:Lex.Tok} {ts:List Lex.Tok} (h:Lex.scan l= .toks (t::ts)):Tr.tokB k l=(t.kind == k && decide (t.text=l)):=by unfold Tr.tokB;rw [h]
theorem zSZ (l:List UInt8) (s:BA):((⟨l.toArray⟩:BA).toList == s.toList)=decide (l=s.data.toList):=by
 rw [zAF,Bool.eq_iff_iff,decide_eq_true_eq,decide_eq_true_eq]
 constructor
 ·intro h;rw [<-h]
 ·intro h;cases s with
  |mk d=>simp only at h;rw [h]
theorem zP9 (l:List UInt8) (s:BA):(l == s.toList)=decide (l=s.data.toList):=by
 have h:=zSZ l s;have e:(⟨l.toArray⟩:BA).toList=l:=by simp
 rw [e] at h;exact h
theorem zQQ (s:BA) (w:World) (hs:s.size<=9223372036854775807) (hl:16384<s.size):
 Calls prog 147 #[.string s] w fun e w'=>e= .returned (.tuple #[.slice none 0 0,.int .i64 0,.int .i64 8])/\w=w':=by
 go_in;go_wp2;go_ret3;exact⟨rfl,rfl⟩
theorem zTD (s:BA) (w:World) (hE:LexEnv w) (hs:s.size<=maxLen):Calls prog 147 #[.string s] w (ScanPost s w):=by
 by_cases h:s.size<=16384
 ·exact zIQ s w hE h
 ·refine(zQQ s w hs (by omega)).mono ?_;rintro e w' ⟨rfl,rfl⟩;refine .inl ⟨0,8,?_,rfl,Below.refl _ _⟩;unfold Lex.scan;rw [kD (by rw [zHA];omega)]
theorem zFE (n:Nat):∀(f:Nat) (l:List UInt8) (a er:Nat),l.length<=f->Lex.scanF n f l= .bad a er->0<er
 |f,[],a,er,_,h=>by rw [Lex.zC5] at h;cases h
 |0,_ ::_,_,_,hf,_=>by simp at hf
 |f+1,c::r,a,er,hf,h=>by
  cases hn:Lex.next (c::r) with
  |bad e=>
   rw [Lex.zFF hn] at h;cases h;exact Lex.zG3 hn
  |tok k t v=>
   rw [Lex.scanF,hn] at h;simp only [] at h;have h3:=(Lex.zCO hn).2.1;have hle:=Lex.zBR false ((c::r).drop t.length);rw [List.length_drop] at hle;have hlen:(Lex.skip false ((c::r).drop t.length)).length<=f:=by
    simp only [kI] at hle hf;omega
   cases hr:Lex.scanF n f (Lex.skip false ((c::r).drop t.length)) with
   |bad a2 e2=>
    rw [hr] at h;cases h;exact zFE n f _ _ _ hlen hr
   |toks l'=>rw [hr] at h;cases h
theorem zK6 {l:List UInt8} {a er:Nat} (h:Lex.scan l= .bad a er):0<er:=by
 unfold Lex.scan at h
 split at h
 ·cases h;omega
 ·exact zFE _ _ _ _ _ (Lex.zBR false l) h
theorem zH4 (s:BA) (k:Nat) (w:World) (hE:LexEnv w) (hs:s.size<=maxLen):
 Calls prog 100 #[.string s,.int .i64 k] w fun e w'=>e= .returned (.bool (Tr.tokB k s.data.toList))/\Below w.heap.size w w':=by
 have HS:=zh (zTD s w hE hs);cases hsc:Lex.scan s.data.toList with
 |bad a er=>
  have her:Hid (Tr.tokB k s.data.toList=false):=by show _=_;unfold Tr.tokB;rw [hsc]
  have he:0<er:=zK6 hsc;have he2:((er:Int) == 0)=false:=kA.2 (by omega);have HSC:=zh hsc;clear hsc hE;go_in;go_wp2_with fail;refine HS.mono ?_;rintro e w2 hp;obtain⟨rfl,hb⟩:=zTJ hp HSC;clear hp;go_wp2;go_ret;exact⟨by rw [her.out];rfl,hb⟩
 |toks ts=>
  obtain⟨t,r,rfl⟩:∃t r,ts=t::r:=by
   have:=zQO hsc;cases ts with
   |nil=>exact absurd rfl this
   |cons t r=>exact ⟨t,r,rfl⟩
  have htk:=zh (zUX (k:=k) hsc);have HSC:=zh hsc;have hlen:1<=(t::r).length:=(by simp);obtain⟨n,hn⟩:∃n,(t::r).length=n:=⟨_,rfl⟩;rw [hn] at hlen;have hl2:=zTC hsc;rw [hn] at hl2;have HN:=zh hn;obtain⟨kd,tx,vl,ps⟩:=t;clear hsc hE hn;by_cases hkk:kd=k
  ·have hb1:((kd:Int) == (k:Int))=true:=kX.2 (by omega);have hf:Hid (Tr.tokB k s.data.toList=decide (tx=s.data.toList)):=by rw [htk.out];show((kd == k) && _)=_;rw [hkk,beq_self_eq_true,kF]
   clear hkk;go_in;go_wp2_with fail;refine HS.mono ?_;rintro e w2 hp;obtain⟨g,cap,rfl,hta,h1,h2,hb⟩:=zLD hp HSC;rw [HN.out];obtain⟨c0,c1,_,_⟩:=hta 0 _ rfl;clear hp hta;go_wp2;go_ret;exact⟨by rw [hf.out];exact zBT (zP9 tx s),hb⟩
  ·have hb1:((kd:Int) == (k:Int))=false:=kA.2 (by omega);have hf:Hid (Tr.tokB k s.data.toList=false):=by rw [htk.out];show((kd == k) && _)=_;rw [kA.2 hkk,Bool.false_and]
   clear hkk;go_in;go_wp2_with fail;refine HS.mono ?_;rintro e w2 hp;obtain⟨g,cap,rfl,hta,h1,h2,hb⟩:=zLD hp HSC;rw [HN.out];obtain⟨c0,c1,_,_⟩:=hta 0 _ rfl;clear hp hta;go_wp2;go_ret;exact⟨by rw [hf.out];rfl,hb⟩
theorem zBA (s:BA) (w:World) (hE:LexEnv w) (hs:s.size<=maxLen):
 Calls prog 63 #[.string s] w fun e w'=>e= .returned (.bool (Tr.varB s))/\Below w.heap.size w w':=by
 have h:=zH4 s 2 w hE hs;rw [Tr.zSX] at h;have H:=zh h;clear h hE;go_in;go_wp2_with fail;refine H.mono ?_;rintro e w' ⟨rfl,hb⟩;go_wp2;go_ret;exact⟨rfl,hb⟩
theorem zH5 (s:BA) (w:World) (hE:LexEnv w) (hs:s.size<=maxLen):
 Calls prog 64 #[.string s] w fun e w'=>e= .returned (.bool (Tr.clsB s))/\Below w.heap.size w w':=by
 have h:=zH4 s 3 w hE hs;rw [Tr.zSY] at h;have H:=zh h;clear h hE;go_in;go_wp2_with fail;refine H.mono ?_;rintro e w' ⟨rfl,hb⟩;go_wp2;go_ret;exact⟨rfl,hb⟩
def IdxPost (b:Bool) (W:World) (e:Ending) (w':World):Prop:=∃i:Int,e= .returned (.int .i64 i)/\decide (0<=i)=b/\Below W.heap.size W w'
theorem SlStr.len {w:World} {v:Value} {l:List BA} (h:SlStr w v l):l.length<=maxLen:=by
 obtain⟨p,c,e,h1,_⟩:=h;exact h1
def methV (m:Tr.M) (x y:Value):Value:= .agg #[.string m.name,x,y]
def classV (c:Tr.C) (x y:Value):Value:= .agg #[.string c.name,.bool c.actor,x,y]
end
section
namespace Cw
open Go.RowKit Go.Maps Pw
theorem zD9 (e:Tr.E) (a:Value) (w:World) (hbd:BdE e) (hS:SlE w a e.args) (h8:e.kind=8->e.args≠ []):
 Calls prog 65 #[zK e a] w fun r w'=>r= .returned (.tuple #[.int .i64 ((Co.const e).getD 0),.bool (Co.const e).isSome])/\Below w.heap.size w w':=by
 obtain⟨k,o,i,nm,at_,l⟩:=e;obtain⟨p,c,rfl,_⟩:=hS.form;have hS':SlE w (.slice p l.length c) l:=hS;have h8':k=8->l≠ []:=h8;unfold zK;simp only [Tr.E.kind,Tr.E.op,Tr.E.int,Tr.E.name,Tr.E.at_,Tr.E.args];clear h8 hS hbd;have hb1:=zD w (.cells #[.int .i64 k,.int .i64 o,.int .i64 i,.string nm,.bool at_,.slice p l.length c] 37);by_cases h0:k=0
 ·have HC:Hid (Co.const (.mk k o i nm at_ l)=some i):=zh (by unfold Co.const;dsimp only;rw [kD h0]);rw [HC.out];subst h0;obtain⟨N,hN⟩:∃q,l.length=q:=⟨_,rfl⟩;rw [hN] at hb1 |-;have HB:=zh hb1;clear hb1 h8' hS' hN HC;go_in;go_wp2_with fail;go_ret2;exact⟨rfl,HB⟩
 ·by_cases hk8:k=8
  ·subst hk8;cases l with
   |nil=>exact absurd (h8' rfl) (by simp)
   |cons x r=>
    obtain⟨b,oo,ax,rfl,hlt,hcx,hbx,hsx⟩:=hS'.get (j:=0) (e:=x) rfl;obtain⟨x0,x1,x2,x3,x4,x5⟩:=hcx;have y0:=zA hb1 x0;have y2:=zA hb1 x2;simp only [Nat.zero_mul,Nat.add_zero] at y0 y2;have hi:=hbx.int;obtain⟨X,hX⟩:∃q,x.kind=q:=⟨_,rfl⟩;obtain⟨I,hI⟩:∃q,x.int=q:=⟨_,rfl⟩;rw [hX] at y0;rw [hI] at y2 hi;have hcon:Co.const (.mk 8 o i nm at_ (x::r))=if X=0/\0<I then some (-I) else none:=by
     unfold Co.const;dsimp only;rw [kC (by decide),kD rfl,hX,hI]
    rw [hcon];have hlen:(x::r).length=r.length+1:=rfl;rw [hlen] at hb1 y0 y2 |-;obtain⟨N,hN⟩:∃q,r.length=q:=⟨_,rfl⟩;rw [hN] at hb1 y0 y2 |-;have HB:=zh hb1;have hwn:Hid (0<I->wrap64 (-I)= -I):=zh (fun h=>by have:=hi.1;have:=hi.2;unfold wrap64;omega);clear x0 x1 x2 x3 x4 x5 hb1 h8' hS' hX hI hsx hbx hcon hlen h0 hlt hi hN;by_cases hx0:X=0
    ·subst hx0;by_cases hpos:0<I
     ·rw [kD ⟨rfl,hpos⟩];have hw2:=hwn hpos;have HW:=zh hw2;have hgt:decide (I > 0)=true:=kS hpos;clear hwn hw2;go_in;go_wp2_with fail;go_ret2
      first
       |exact ⟨rfl,HB⟩
       |(rw [HW.out];exact⟨rfl,HB⟩)
     ·rw [kC (fun h=>hpos h.2)];have hle:I<=0:=(by omega);have hgt:decide (I > 0)=false:=kE hpos;clear hwn hpos;go_in;go_wp2_with fail;go_ret2;exact⟨rfl,HB⟩
    ·rw [kC (fun h=>hx0 h.1)];have hne:(X == 0)=false:=kA.2 hx0;clear hwn hx0;go_in;go_wp2_with fail;go_ret2;exact⟨rfl,HB⟩
  ·have HC:Hid (Co.const (.mk k o i nm at_ l)=none):=zh (by unfold Co.const;dsimp only;rw [kC h0,kC hk8]);rw [HC.out];have hb0:(k == 0)=false:=kA.2 h0;have hb8:(k == 8)=false:=kA.2 hk8;obtain⟨N,hN⟩:∃q,l.length=q:=⟨_,rfl⟩;rw [hN] at hb1 |-;have HB:=zh hb1;clear hb1 h8' hS' hN HC h0 hk8;go_in;go_wp2_with fail;go_ret2;exact⟨rfl,HB⟩
theorem zDH (e:Tr.E) (a:Value) (w:World) (hbd:BdE e) (hS:SlE w a e.args) (h8:e.kind=8->e.args.length=1):
 Calls prog 69 #[zK e a] w fun r w'=>r= .returned (.tuple #[.int .i64 ((Co.const e).getD 0),.bool (Co.const e).isSome])/\Below w.heap.size w w':=by
 obtain⟨k,o,i,nm,at_,l⟩:=e;obtain⟨p,c,rfl,_⟩:=hS.form;have hS':SlE w (.slice p l.length c) l:=hS;have h8':k=8->l.length=1:=h8;unfold zK;simp only [Tr.E.kind,Tr.E.op,Tr.E.int,Tr.E.name,Tr.E.at_,Tr.E.args];clear h8 hS hbd;have hb1:=zD w (.cells #[.int .i64 k,.int .i64 o,.int .i64 i,.string nm,.bool at_,.slice p l.length c] 37);by_cases h0:k=0
 ·have HC:Hid (Co.const (.mk k o i nm at_ l)=some i):=zh (by unfold Co.const;dsimp only;rw [kD h0]);rw [HC.out];subst h0;obtain⟨N,hN⟩:∃q,l.length=q:=⟨_,rfl⟩;rw [hN] at hb1 |-;have HB:=zh hb1;clear hb1 h8' hS' hN HC;go_in;go_wp2_with fail;go_ret2;exact⟨rfl,HB⟩
 ·by_cases hk8:k=8
  ·subst hk8;cases l with
   |nil=>exact absurd (h8' rfl) (by simp)
   |cons x r=>
    obtain⟨b,oo,ax,rfl,hlt,hcx,hbx,hsx⟩:=hS'.get (j:=0) (e:=x) rfl;obtain⟨x0,x1,x2,x3,x4,x5⟩:=hcx;have y0:=zA hb1 x0;have y2:=zA hb1 x2;simp only [Nat.zero_mul,Nat.add_zero] at y0 y2;have hi:=hbx.int;obtain⟨X,hX⟩:∃q,x.kind=q:=⟨_,rfl⟩;obtain⟨I,hI⟩:∃q,x.int=q:=⟨_,rfl⟩;rw [hX] at y0;rw [hI] at y2 hi;have hcon:Co.const (.mk 8 o i nm at_ (x::r))=if X=0/\0<I then some (-I) else none:=by
     unfold Co.const;dsimp only;rw [kC (by decide),kD rfl,hX,hI]
    rw [hcon];have hlen:(x::r).length=1:=h8' rfl;rw [hlen] at hb1 y0 y2 |-;have HB:=zh hb1;have hwn:Hid (0<I->wrap64 (-I)= -I):=zh (fun h=>by have:=hi.1;have:=hi.2;unfold wrap64;omega);clear x0 x1 x2 x3 x4 x5 hb1 h8' hS' hX hI hsx hbx hcon hlen h0 hlt hi;by_cases hx0:X=0
    ·subst hx0;by_cases hpos:0<I
     ·rw [kD ⟨rfl,hpos⟩];have hw2:=hwn hpos;have HW:=zh hw2;have hgt:decide (I > 0)=true:=kS hpos;clear hwn hw2;go_in;go_wp2_with fail;go_ret2
      first
       |exact ⟨rfl,HB⟩
       |(rw [HW.out];exact⟨rfl,HB⟩)
     ·rw [kC (fun h=>hpos h.2)];have hle:I<=0:=(by omega);have hgt:decide (I > 0)=false:=kE hpos;clear hwn hpos;go_in;go_wp2_with fail;go_ret2;exact⟨rfl,HB⟩
    ·rw [kC (fun h=>hx0 h.1)];have hne:(X == 0)=false:=kA.2 hx0;clear hwn hx0;go_in;go_wp2_with fail;go_ret2;exact⟨rfl,HB⟩
  ·have HC:Hid (Co.const (.mk k o i nm at_ l)=none):=zh (by unfold Co.const;dsimp only;rw [kC h0,kC hk8]);rw [HC.out];have hb0:(k == 0)=false:=kA.2 h0;have hb8:(k == 8)=false:=kA.2 hk8;obtain⟨N,hN⟩:∃q,l.length=q:=⟨_,rfl⟩;rw [hN] at hb1 |-;have HB:=zh hb1;clear hb1 h8' hS' hN HC h0 hk8;go_in;go_wp2_with fail;go_ret2;exact⟨rfl,HB⟩
end Cw
end
end Go.Proofs.YtcnmfcgmnkncaaaGreatDoor
