/-
  Trees of the language out of data: an argument that reads as data reads as a list of expressions, statements, methods, classes, strings.
-/
import Derived.Test.YtcnmfcgmnkncaaaGreatDoorX1
namespace Go.Proofs.YtcnmfcgmnkncaaaGreatDoor
open Go.RowKit Go.Deep Go.ChangeShapes
section
variable {H:Type} {enc:TypeId × Value->H} {P:Program} {w:World} {base:Nat} {spare:Nat->Bool} {held:Bool}
theorem zDE {t:TypeId} {fs:Array Field} {fuel:Nat} {cs:List Value} {x:DataW H × List MemPlace} (ht:P.underlying t=some (.struct fs)) (hone:oneCellFields P fs=true) (hC:P.cellsOf t=fs.size)
 (h:DataW.trod enc P w base spare held fuel t cs=some x):
 ∃n,fuel=n+1/\cs.length=fs.size/\∀(j:Nat) (f:Field),fs[j]? =some f->∃v y,cs[j]? =some v/\DataW.trod enc P w base spare held n f.type [v]=some y:=by
 obtain⟨xs,n,hn,_,hl,hxl,hf⟩:=DataW.trod_struct ht h;refine⟨n,hn,hl.trans hC,fun j f hj=>?_⟩;obtain⟨ho,hk⟩:=hone_of hone j f hj;have hjl:j<fs.size:=(Array.getElem?_eq_some_iff.1 hj).1;have h1:=hf j f hj;have hcl:j<cs.length:=by rw [hl,hC];exact hjl
 rw [ho,hk,take1_drop cs j undef hcl,kB (by omega)] at h1;exact⟨cs.getD j undef,_,by simp [List.getD,List.getElem?_eq_getElem hcl],h1⟩
theorem zFX {t e:TypeId} {k fuel:Nat} {cs:List Value} {x:DataW H × List MemPlace} (ht:P.underlying t=some (.slice e)) (hC:P.cellsOf e=k) (h:DataW.trod enc P w base spare held fuel t cs=some x):
 cs= [.slice none 0 0]\/∃a len cap n,fuel=n+1/\cs= [.slice (some a) len cap]/\len<=cap/\cap<=maxLen/\
  ∀i,i<len->∃cs' y,cs'.length=k/\(∀j,j<k->w.cell? (a.add (i*k+j))=cs'[j]?)/\DataW.trod enc P w base spare held n e cs'=some y:=by
 rcases DataW.trod_slice ht h with ⟨h0,_⟩|⟨a,len,cap,elems,rest,n,hn,hcs,_,hb,hl,hm,hlen,hel,_⟩
 ·exact .inl h0
 ·refine .inr ⟨a,len,cap,n,hn,hcs,hl,hm,fun i hi=>?_⟩;have h1:=hel i hi;rw [kB (by omega)] at h1;obtain⟨cs',hc,ht'⟩:=Option.bind_eq_some_iff.1 h1;rw [hC] at hc;obtain⟨_,hcl,hat⟩:=World.cells?_some hc;exact⟨cs',_,hcl,fun j hj=>by rw [<-add_add];exact hat j hj,ht'⟩
theorem zEN {w:World} {a:Addr} {v:Value} (h:w.cell? (a.add 0)=some v):a=⟨a.block,a.off,none⟩:=by
 have h0:a.add 0=a:=by simp [Addr.add]
 rw [h0] at h;obtain⟨b,o,s⟩:=a;cases s with
 |none=>rfl
 |some s=>
  unfold World.cell? at h
  split at h<;>simp at h
theorem zUC (b o m:Nat):(⟨b,o,none⟩:Addr).add m=⟨b,o+m,none⟩:=by unfold Addr.add;split<;>simp_all
theorem zKT {w:World} {a:Addr} {i:Nat} {v:Value} (h:w.cell? (a.add i)=some v) (hi:∃u,w.cell? (a.add 0)=some u):w.cell? ⟨a.block,a.off+i,none⟩=some v:=by
 obtain⟨u,hu⟩:=hi;have:=zEN hu;rw [this,zUC] at h;exact h
structure TypesE (P:Program) (tE tsE tInt tI64 tStr tBool:TypeId):Prop where
 int:P.underlying tInt=some (.int .i64)
 i64:P.underlying tI64=some (.int .i64)
 str:P.underlying tStr=some .string
 bool:P.underlying tBool=some .bool
 sl:P.underlying tsE=some (.slice tE)
 st:∃fs,P.underlying tE=some (.struct fs)/\oneCellFields P fs=true/\fs.toList.map (·.type)= [tInt,tInt,tI64,tStr,tBool,tsE]
 size:P.cellsOf tE=6
structure TypesS (P:Program) (tS tsS tE tsE tInt tI64 tStr tBool:TypeId):Prop extends TypesE P tE tsE tInt tI64 tStr tBool where
 slS:P.underlying tsS=some (.slice tS)
 stS:∃fs,P.underlying tS=some (.struct fs)/\oneCellFields P fs=true/\fs.toList.map (·.type)= [tInt,tStr,tsE,tsS,tsS]
 sizeS:P.cellsOf tS=5
structure TypesC (P:Program) (tP tC tsC tM tsM tsStr tS tsS tE tsE tInt tI64 tStr tBool:TypeId):Prop extends TypesS P tS tsS tE tsE tInt tI64 tStr tBool where
 strs:P.underlying tsStr=some (.slice tStr)
 sizeStr:P.cellsOf tStr=1
 slM:P.underlying tsM=some (.slice tM)
 stM:∃fs,P.underlying tM=some (.struct fs)/\oneCellFields P fs=true/\fs.toList.map (·.type)= [tStr,tsStr,tsS]
 sizeM:P.cellsOf tM=3
 slC:P.underlying tsC=some (.slice tC)
 stC:∃fs,P.underlying tC=some (.struct fs)/\oneCellFields P fs=true/\fs.toList.map (·.type)= [tStr,tBool,tsStr,tsM]
 sizeC:P.cellsOf tC=4
 stP:∃fs,P.underlying tP=some (.struct fs)/\oneCellFields P fs=true/\fs.toList.map (·.type)= [tsC]
 sizeP:P.cellsOf tP=1
theorem zAN {fs:Array Field} {ts:List TypeId} (h:fs.toList.map (·.type)=ts) {j:Nat} {t:TypeId} (hj:ts[j]? =some t):∃f,fs[j]? =some f/\f.type=t:=by
 rw [<-h,List.getElem?_map] at hj;obtain⟨f,hf,e⟩:=Option.map_eq_some_iff.1 hj;exact⟨f,by rw [<-Array.getElem?_toList];exact hf,e⟩
theorem i64_of {n:Int} (h:(Lit.int .i64 n).wf=true):Tr.I64 n:=by
 simp only [Lit.wf,kW,decide_eq_true_eq] at h;exact⟨h.1,h.2⟩
variable {tE tsE tInt tI64 tStr tBool:TypeId}
theorem zHS (T:TypesE P tE tsE tInt tI64 tStr tBool) {fuel:Nat} {cs:List Value} {x:DataW H × List MemPlace} (h:DataW.trod enc P w base spare held fuel tE cs=some x):
 ∃n k o i s b a y,fuel=n+1/\cs= [.int .i64 k,.int .i64 o,.int .i64 i,.string s,.bool b,a]/\Tr.I64 k/\Tr.I64 o/\Tr.I64 i/\s.size<=maxLen/\DataW.trod enc P w base spare held n tsE [a]=some y:=by
 obtain⟨fs,h1,h2,h3⟩:=T.st;have hfs:fs.size=6:=by
  have:=congrArg List.length h3
  simpa using this
 obtain⟨n,hn,hl,hf⟩:=zDE h1 h2 (by rw [T.size,hfs]) h;rw [hfs] at hl;obtain⟨f0,g0,e0⟩:=zAN h3 (j:=0) rfl;obtain⟨f1,g1,e1⟩:=zAN h3 (j:=1) rfl;obtain⟨f2,g2,e2⟩:=zAN h3 (j:=2) rfl;obtain⟨f3,g3,e3⟩:=zAN h3 (j:=3) rfl;obtain⟨f4,g4,e4⟩:=zAN h3 (j:=4) rfl;obtain⟨f5,g5,e5⟩:=zAN h3 (j:=5) rfl;obtain⟨v0,y0,c0,t0⟩:=hf 0 f0 g0;obtain⟨v1,y1,c1,t1⟩:=hf 1 f1 g1;obtain⟨v2,y2,c2,t2⟩:=hf 2 f2 g2;obtain⟨v3,y3,c3,t3⟩:=hf 3 f3 g3;obtain⟨v4,y4,c4,t4⟩:=hf 4 f4 g4;obtain⟨v5,y5,c5,t5⟩:=hf 5 f5 g5;rw [e0] at t0;rw [e1] at t1;rw [e2] at t2;rw [e3] at t3;rw [e4] at t4;rw [e5] at t5;obtain⟨k,k1,_,k2⟩:=DataW.trod_int T.int t0;obtain⟨o,o1,_,o2⟩:=DataW.trod_int T.int t1;obtain⟨i,i1,_,i2⟩:=DataW.trod_int T.i64 t2;obtain⟨s,s1,_,s2⟩:=DataW.trod_string T.str t3;obtain⟨b,b1,_⟩:=DataW.trod_bool T.bool t4;cases k1;cases o1;cases i1;cases s1;cases b1
 match cs,hl with
 | [u0,u1,u2,u3,u4,u5],_=>
   simp at c0 c1 c2 c3 c4 c5;subst c0 c1 c2 c3 c4 c5;exact⟨n,k,o,i,s,b,_,y5,hn,rfl,i64_of k2,i64_of o2,i64_of i2,s2,t5⟩
theorem zO0 (T:TypesE P tE tsE tInt tI64 tStr tBool):∀(fuel:Nat) {cs:List Value} {x:DataW H × List MemPlace},DataW.trod enc P w base spare held fuel tsE cs=some x->∃v l,cs= [v]/\SlE w v l:=by
 intro fuel
 induction fuel using Nat.strongRecOn with
 |ind fuel ih=>
  intro cs x h;rcases zFX T.sl T.size h with rfl|⟨a,len,cap,n,rfl,rfl,hl,hm,hel⟩
  ·exact⟨_,[],rfl,.nil _ _⟩
  ·have key:∀i,i<len->∃(z:Tr.E × Value),CellsE w a.block (a.off+i*6) z.1 z.2/\BdE z.1/\SlE w z.2 z.1.args:=by
    intro i hi;obtain⟨cs',y,hcl,hat,ht⟩:=hel i hi;obtain⟨n2,k,o,i2,s,b,v,y2,hn2,rfl,w1,w2,w3,w4,ht2⟩:=zHS T ht;obtain⟨v',l,hv,hs⟩:=ih n2 (by omega) ht2;cases hv;obtain⟨cs0,y0,hcl0,hat0,_⟩:=hel 0 (by omega);have hz:∃u,w.cell? (a.add 0)=some u:=by
     have:=hat0 0 (by omega);rw [Nat.zero_mul,Nat.zero_add,kB (by omega)] at this;exact⟨_,this⟩
    have at_:∀j u,j<6->([Value.int .i64 k,.int .i64 o,.int .i64 i2,.string s,.bool b,v]:List Value)[j]? =some u->w.cell? ⟨a.block,a.off+i*6+j,none⟩=some u:=by
     intro j u hj hu;have:=zKT ((hat j hj).trans hu) hz;rw [<-Nat.add_assoc] at this;exact this
    exact⟨(.mk k o i2 s b l,v),⟨at_ 0 _ (by omega) rfl,at_ 1 _ (by omega) rfl,at_ 2 _ (by omega) rfl,at_ 3 _ (by omega) rfl,at_ 4 _ (by omega) rfl,at_ 5 _ (by omega) rfl⟩,⟨w1,w2,w3,w4⟩,hs⟩
   haveI:Inhabited (Tr.E × Value):=⟨(.mk 0 0 0 ⟨#[]⟩ false [],undef)⟩
   obtain⟨F,hF⟩:=choose_lt key;by_cases h0:len=0
   ·subst h0;exact⟨_,[],rfl,.nil _ _⟩
   ·obtain⟨cs0,y0,hcl0,hat0,_⟩:=hel 0 (by omega);have hz:=hat0 0 (by omega);rw [Nat.zero_mul,Nat.zero_add,kB (by omega)] at hz;have ha:=zEN hz;have hgl:∀j e,((List.range len).map fun i=>(F i).1)[j]? =some e->j<len/\e=(F j).1:=by
     intro j e hj;have hlt:j<len:=by
      have:=(kJ.1 hj).1
      simpa using this
     rw [List.getElem?_map,List.getElem?_range hlt] at hj;exact⟨hlt,by cases hj;rfl⟩
    have hlen:((List.range len).map fun i=>(F i).1).length=len:=(by simp);refine⟨.slice (some a) len cap,(List.range len).map fun i=>(F i).1,rfl,?_⟩;have:=SlE.row (w:=w) a.block a.off cap ((List.range len).map fun i=>(F i).1) (fun i=>(F i).2) (by omega) hm
     (fun j e hj=>by obtain⟨h1,rfl⟩:=hgl j e hj;exact⟨(hF j h1).1,(hF j h1).2.1⟩) (fun j e hj=>by obtain⟨h1,rfl⟩:=hgl j e hj;exact(hF j h1).2.2)
    rw [hlen,<-ha] at this;exact this
variable {tS tsS:TypeId}
theorem zHR (T:TypesS P tS tsS tE tsE tInt tI64 tStr tBool) {fuel:Nat} {cs:List Value} {x:DataW H × List MemPlace} (h:DataW.trod enc P w base spare held fuel tS cs=some x):
 ∃n k s a b c y1 y2 y3,fuel=n+1/\cs= [.int .i64 k,.string s,a,b,c]/\Tr.I64 k/\s.size<=maxLen/\DataW.trod enc P w base spare held n tsE [a]=some y1/\DataW.trod enc P w base spare held n tsS [b]=some y2/\DataW.trod enc P w base spare held n tsS [c]=some y3:=by
 obtain⟨fs,h1,h2,h3⟩:=T.stS;have hfs:fs.size=5:=by
  have:=congrArg List.length h3
  simpa using this
 obtain⟨n,hn,hl,hf⟩:=zDE h1 h2 (by rw [T.sizeS,hfs]) h;rw [hfs] at hl;obtain⟨f0,g0,e0⟩:=zAN h3 (j:=0) rfl;obtain⟨f1,g1,e1⟩:=zAN h3 (j:=1) rfl;obtain⟨f2,g2,e2⟩:=zAN h3 (j:=2) rfl;obtain⟨f3,g3,e3⟩:=zAN h3 (j:=3) rfl;obtain⟨f4,g4,e4⟩:=zAN h3 (j:=4) rfl;obtain⟨v0,y0,c0,t0⟩:=hf 0 f0 g0;obtain⟨v1,y1,c1,t1⟩:=hf 1 f1 g1;obtain⟨v2,y2,c2,t2⟩:=hf 2 f2 g2;obtain⟨v3,y3,c3,t3⟩:=hf 3 f3 g3;obtain⟨v4,y4,c4,t4⟩:=hf 4 f4 g4;rw [e0] at t0;rw [e1] at t1;rw [e2] at t2;rw [e3] at t3;rw [e4] at t4;obtain⟨k,k1,_,k2⟩:=DataW.trod_int T.int t0;obtain⟨s,s1,_,s2⟩:=DataW.trod_string T.str t1;cases k1;cases s1
 match cs,hl with
 | [u0,u1,u2,u3,u4],_=>
   simp at c0 c1 c2 c3 c4;subst c0 c1 c2 c3 c4;exact⟨n,k,s,_,_,_,y2,y3,y4,hn,rfl,i64_of k2,s2,t2,t3,t4⟩
theorem zOZ (T:TypesS P tS tsS tE tsE tInt tI64 tStr tBool):∀(fuel:Nat) {cs:List Value} {x:DataW H × List MemPlace},DataW.trod enc P w base spare held fuel tsS cs=some x->∃v l,cs= [v]/\SlS w v l:=by
 intro fuel
 induction fuel using Nat.strongRecOn with
 |ind fuel ih=>
  intro cs x h;rcases zFX T.slS T.sizeS h with rfl|⟨a,len,cap,n,rfl,rfl,hl,hm,hel⟩
  ·exact⟨_,[],rfl,.nil _ _⟩
  ·have key:∀i,i<len->∃(z:Tr.S × Value × Value × Value),CellsS w a.block (a.off+i*5) z.1 z.2.1 z.2.2.1 z.2.2.2/\BdS z.1/\SlE w z.2.1 z.1.exprs/\SlS w z.2.2.1 z.1.body/\SlS w z.2.2.2 z.1.els:=by
    intro i hi;obtain⟨cs',y,hcl,hat,ht⟩:=hel i hi;obtain⟨n2,k,s,v1,v2,v3,y1,y2,y3,hn2,rfl,w1,w4,ht1,ht2,ht3⟩:=zHR T ht;obtain⟨u1,l1,hv1,hs1⟩:=zO0 T.toTypesE n2 ht1;obtain⟨u2,l2,hv2,hs2⟩:=ih n2 (by omega) ht2;obtain⟨u3,l3,hv3,hs3⟩:=ih n2 (by omega) ht3;cases hv1;cases hv2;cases hv3;obtain⟨cs0,y0,hcl0,hat0,_⟩:=hel 0 (by omega);have hz:∃u,w.cell? (a.add 0)=some u:=by
     have:=hat0 0 (by omega);rw [Nat.zero_mul,Nat.zero_add,kB (by omega)] at this;exact⟨_,this⟩
    have at_:∀j u,j<5->([Value.int .i64 k,.string s,v1,v2,v3]:List Value)[j]? =some u->w.cell? ⟨a.block,a.off+i*5+j,none⟩=some u:=by
     intro j u hj hu;have:=zKT ((hat j hj).trans hu) hz;rw [<-Nat.add_assoc] at this;exact this
    exact⟨(.mk k s l1 l2 l3,v1,v2,v3),⟨at_ 0 _ (by omega) rfl,at_ 1 _ (by omega) rfl,at_ 2 _ (by omega) rfl,at_ 3 _ (by omega) rfl,at_ 4 _ (by omega) rfl⟩,⟨w1,w4⟩,hs1,hs2,hs3⟩
   haveI:Inhabited (Tr.S × Value × Value × Value):=⟨(.mk 0 ⟨#[]⟩ [] [] [],undef,undef,undef)⟩
   obtain⟨F,hF⟩:=choose_lt key;by_cases h0:len=0
   ·subst h0;exact⟨_,[],rfl,.nil _ _⟩
   ·obtain⟨cs0,y0,hcl0,hat0,_⟩:=hel 0 (by omega);have hz:=hat0 0 (by omega);rw [Nat.zero_mul,Nat.zero_add,kB (by omega)] at hz;have ha:=zEN hz;have hgl:∀j e,((List.range len).map fun i=>(F i).1)[j]? =some e->j<len/\e=(F j).1:=by
     intro j e hj;have hlt:j<len:=by
      have:=(kJ.1 hj).1
      simpa using this
     rw [List.getElem?_map,List.getElem?_range hlt] at hj;exact⟨hlt,by cases hj;rfl⟩
    have hlen:((List.range len).map fun i=>(F i).1).length=len:=(by simp);refine⟨.slice (some a) len cap,(List.range len).map fun i=>(F i).1,rfl,?_⟩;have:=SlS.row (w:=w) a.block a.off cap ((List.range len).map fun i=>(F i).1) (fun i=>(F i).2.1) (fun i=>(F i).2.2.1) (fun i=>(F i).2.2.2) (by omega) hm
     (fun j e hj=>by obtain⟨h1,rfl⟩:=hgl j e hj;exact⟨(hF j h1).1,(hF j h1).2.1⟩) (fun j e hj=>by obtain⟨h1,rfl⟩:=hgl j e hj;exact(hF j h1).2.2.1)
     (fun j e hj=>by obtain⟨h1,rfl⟩:=hgl j e hj;exact(hF j h1).2.2.2.1) (fun j e hj=>by obtain⟨h1,rfl⟩:=hgl j e hj;exact(hF j h1).2.2.2.2)
    rw [hlen,<-ha] at this;exact this
theorem zQS {α:Type} [Inhabited α] {k len:Nat} {a:Addr} {R:Nat->Nat->α->Prop} (hk:0<k) (hel:∀i,i<len->∃cs':List Value,cs'.length=k/\(∀j,j<k->w.cell? (a.add (i*k+j))=cs'[j]?)/\
 ∃z:α,∀b o,(∀j u,j<k->cs'[j]? =some u->w.cell? ⟨b,o+i*k+j,none⟩=some u)->R b (o+i*k) z):
 ∃F:List α,F.length=len/\∀j z,F[j]? =some z->a=⟨a.block,a.off,none⟩/\a.block<w.heap.size/\R a.block (a.off+j*k) z:=by
 have key:∀i,i<len->∃z:α,a=⟨a.block,a.off,none⟩/\a.block<w.heap.size/\R a.block (a.off+i*k) z:=by
  intro i hi;obtain⟨cs0,hcl0,hat0,_⟩:=hel 0 (by omega);have hz:=hat0 0 (by omega);rw [Nat.zero_mul,Nat.zero_add,kB (by omega)] at hz;have ha:=zEN hz;obtain⟨cs',hcl,hat,z,hR⟩:=hel i hi;refine⟨z,ha,?_,hR a.block a.off fun j u hj hu=>?_⟩
  ·have:=zKT hz ⟨_,hz⟩;exact zAR this
  ·have:=zKT ((hat j hj).trans hu) ⟨_,hz⟩;rw [<-Nat.add_assoc] at this;exact this
 obtain⟨F,hF⟩:=choose_lt key;refine⟨(List.range len).map F,by simp,fun j z hj=>?_⟩;have hlt:j<len:=by
  have:=(kJ.1 hj).1
  simpa using this
 rw [List.getElem?_map,List.getElem?_range hlt] at hj;cases hj;exact hF j hlt
variable {tP tC tsC tM tsM tsStr:TypeId}
theorem zI6 (hs:P.underlying tsStr=some (.slice tStr)) (hc:P.cellsOf tStr=1) (ht:P.underlying tStr=some .string) {fuel:Nat} {cs:List Value} {x:DataW H × List MemPlace} (h:DataW.trod enc P w base spare held fuel tsStr cs=some x):∃v l,cs= [v]/\SlStr w v l:=by
 rcases zFX hs hc h with rfl|⟨a,len,cap,n,rfl,rfl,hl,hm,hel⟩
 ·exact⟨_,[],rfl,_,_,rfl,kO _,fun h=>absurd rfl h,fun j s hj=>by simp at hj⟩
 ·haveI:Inhabited BA:=⟨⟨#[]⟩⟩
  obtain⟨F,hF,hr⟩:=zQS (w:=w) (a:=a) (len:=len) (k:=1) (R:=fun b o s=>s.size<=maxLen/\w.cell? ⟨b,o,none⟩=some (.string s)) (by omega) (fun i hi=>by
   obtain⟨cs',y,hcl,hat,ht'⟩:=hel i hi;obtain⟨s,rfl,_,hsz⟩:=DataW.trod_string ht ht';exact⟨_,hcl,hat,s,fun b o hc=>⟨hsz,hc 0 _ (by omega) rfl⟩⟩)
  refine⟨_,F,rfl,some a,cap,by rw [hF],by omega,fun _=>⟨by omega,hm⟩,fun j s hj=>?_⟩;obtain⟨h1,h2,h3,h4⟩:=hr j s hj;rw [Nat.mul_one] at h4;exact⟨h3,_,_,by rw [h1],h2,h4⟩
theorem zLE (T:TypesC P tP tC tsC tM tsM tsStr tS tsS tE tsE tInt tI64 tStr tBool) {fuel:Nat} {cs:List Value} {x:DataW H × List MemPlace} (h:DataW.trod enc P w base spare held fuel tsM cs=some x):∃v l,cs= [v]/\SlM w v l:=by
 rcases zFX T.slM T.sizeM h with rfl|⟨a,len,cap,n,rfl,rfl,hl,hm,hel⟩
 ·exact⟨_,[],rfl,_,_,rfl,kO _,fun h=>absurd rfl h,fun j s hj=>by simp at hj⟩
 ·haveI:Inhabited Tr.M:=⟨⟨⟨#[]⟩,[],[]⟩⟩
  obtain⟨F,hF,hr⟩:=zQS (w:=w) (a:=a) (len:=len) (k:=3) (R:=fun b o m=>m.name.size<=maxLen/\∃x y,CellsM w b o m x y/\SlStr w x m.params/\SlS w y m.body) (by omega) (fun i hi=>by
   obtain⟨cs',y,hcl,hat,ht'⟩:=hel i hi;obtain⟨fs,h1,h2,h3⟩:=T.stM;have hfs:fs.size=3:=by have:=congrArg List.length h3;simpa using this
   obtain⟨n2,hn,hl2,hf⟩:=zDE h1 h2 (by rw [T.sizeM,hfs]) ht';obtain⟨f0,g0,e0⟩:=zAN h3 (j:=0) rfl;obtain⟨f1,g1,e1⟩:=zAN h3 (j:=1) rfl;obtain⟨f2,g2,e2⟩:=zAN h3 (j:=2) rfl;obtain⟨v0,y0,c0,t0⟩:=hf 0 f0 g0;obtain⟨v1,y1,c1,t1⟩:=hf 1 f1 g1;obtain⟨v2,y2,c2,t2⟩:=hf 2 f2 g2;rw [e0] at t0;rw [e1] at t1;rw [e2] at t2;obtain⟨s,s1,_,s2⟩:=DataW.trod_string T.str t0;obtain⟨u1,l1,hv1,hs1⟩:=zI6 T.strs T.sizeStr T.str t1;obtain⟨u2,l2,hv2,hs2⟩:=zOZ T.toTypesS _ t2;cases s1;cases hv1;cases hv2;exact⟨cs',hcl,hat,⟨s,l1,l2⟩,fun b o hc=>⟨s2,_,_,⟨hc 0 _ (by omega) c0,hc 1 _ (by omega) c1,hc 2 _ (by omega) c2⟩,hs1,hs2⟩⟩)
  refine⟨_,F,rfl,some a,cap,by rw [hF],by omega,fun _=>⟨by omega,hm⟩,fun j s hj=>?_⟩;obtain⟨h1,h2,h3,x,y,h4⟩:=hr j s hj;exact⟨h3,_,_,x,y,by rw [h1],h2,h4⟩
theorem zLF (T:TypesC P tP tC tsC tM tsM tsStr tS tsS tE tsE tInt tI64 tStr tBool) {fuel:Nat} {cs:List Value} {x:DataW H × List MemPlace} (h:DataW.trod enc P w base spare held fuel tsC cs=some x):∃v l,cs= [v]/\SlC w v l:=by
 rcases zFX T.slC T.sizeC h with rfl|⟨a,len,cap,n,rfl,rfl,hl,hm,hel⟩
 ·exact⟨_,[],rfl,_,_,rfl,kO _,fun h=>absurd rfl h,fun j s hj=>by simp at hj⟩
 ·haveI:Inhabited Tr.C:=⟨⟨⟨#[]⟩,false,[],[]⟩⟩
  obtain⟨F,hF,hr⟩:=zQS (w:=w) (a:=a) (len:=len) (k:=4) (R:=fun b o m=>m.name.size<=maxLen/\∃x y,CellsC w b o m x y/\SlStr w x m.fields/\SlM w y m.methods) (by omega) (fun i hi=>by
   obtain⟨cs',y,hcl,hat,ht'⟩:=hel i hi;obtain⟨fs,h1,h2,h3⟩:=T.stC;have hfs:fs.size=4:=by have:=congrArg List.length h3;simpa using this
   obtain⟨n2,hn,hl2,hf⟩:=zDE h1 h2 (by rw [T.sizeC,hfs]) ht';obtain⟨f0,g0,e0⟩:=zAN h3 (j:=0) rfl;obtain⟨f1,g1,e1⟩:=zAN h3 (j:=1) rfl;obtain⟨f2,g2,e2⟩:=zAN h3 (j:=2) rfl;obtain⟨f3,g3,e3⟩:=zAN h3 (j:=3) rfl;obtain⟨v0,y0,c0,t0⟩:=hf 0 f0 g0;obtain⟨v1,y1,c1,t1⟩:=hf 1 f1 g1;obtain⟨v2,y2,c2,t2⟩:=hf 2 f2 g2;obtain⟨v3,y3,c3,t3⟩:=hf 3 f3 g3;rw [e0] at t0;rw [e1] at t1;rw [e2] at t2;rw [e3] at t3;obtain⟨s,s1,_,s2⟩:=DataW.trod_string T.str t0;obtain⟨bb,b1,_⟩:=DataW.trod_bool T.bool t1;obtain⟨u1,l1,hv1,hs1⟩:=zI6 T.strs T.sizeStr T.str t2;obtain⟨u2,l2,hv2,hs2⟩:=zLE T t3;cases s1;cases b1;cases hv1;cases hv2;exact⟨cs',hcl,hat,⟨s,bb,l1,l2⟩,fun b o hc=>⟨s2,_,_,⟨hc 0 _ (by omega) c0,hc 1 _ (by omega) c1,hc 2 _ (by omega) c2,hc 3 _ (by omega) c3⟩,hs1,hs2⟩⟩)
  refine⟨_,F,rfl,some a,cap,by rw [hF],by omega,fun _=>⟨by omega,hm⟩,fun j s hj=>?_⟩;obtain⟨h1,h2,h3,x,y,h4⟩:=hr j s hj;exact⟨h3,_,_,x,y,by rw [h1],h2,h4⟩
end
end Go.Proofs.YtcnmfcgmnkncaaaGreatDoor
