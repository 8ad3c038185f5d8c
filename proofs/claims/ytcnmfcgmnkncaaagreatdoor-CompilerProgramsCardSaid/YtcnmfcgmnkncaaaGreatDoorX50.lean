/-
  CoEnv, TreeCard, CoCardBase.
-/
import Derived.Test.YtcnmfcgmnkncaaaGreatDoorX25
import Derived.Test.YtcnmfcgmnkncaaaGreatDoorX49
import Derived.Test.YtcnmfcgmnkncaaaGreatDoorCards
import Derived.ProofKit
import Derived.OpenShut
import Derived.SliceStrings
import Derived.LaidLaws
import Derived.Carry
import Derived.WideKeyArgs
import Derived.Test.YtcnmfcgmnkncaaaGreatDoorTie
import Derived.Deep.DeepHandedRow
import Derived.Deep.DeepWitnessRowRef
import Derived.Lib.LaidTab
import Derived.Lib.SmallJoins
set_option maxRecDepth 100000
set_option maxHeartbeats 40000000
open Go.Proofs.Tryz
namespace Go.Proofs.YtcnmfcgmnkncaaaGreatDoor
section
open Go.RowKit Go.ChangeShapes Go.WideShapes
theorem zH3 {P:Program} {W:World}:∀ {l:List (String × DataW Unit)} {ps:List MemPlace},DataW.LaidVars P W l ps->∀ {n:String} {d:DataW Unit},(n,d)∈l->
 ∃g t cs fuel p,P.globalNamed n=some g/\(P.globals[g]?).map (·.type)=some t/\W.var? P n=some cs/\DataW.trod (fun _=>()) P W 0 (fun _=>true) false fuel t cs.toList=some (d,p)
 | [],_,_,_,_,hm=>by simp at hm
 |(n',d')::r,ps,h,n,d,hm=>by
  obtain⟨g,t,cs,fuel,p,q,h1,h2,h3,h4,h5,_⟩:=h;rcases kV.1 hm with e|hm
  ·cases e;exact⟨g,t,cs,fuel,p,h1,h2,h3,h4⟩
  ·exact zH3 h5 hm
theorem zM3 {P:Program} {W:World} {l:List (String × DataW Unit)} (h:laidMet P l W) {n:String} {d:DataW Unit} (hm:(n,d)∈l):
 ∃g t cs fuel p,P.globalNamed n=some g/\(P.globals[g]?).map (·.type)=some t/\W.var? P n=some cs/\DataW.trod (fun _=>()) P W 0 (fun _=>true) false fuel t cs.toList=some (d,p):=by
 obtain⟨ps,h1,_⟩:=h;exact zH3 h1 hm
theorem zIY {W:World} {l:List (String × DataW Unit)} (h:laidMet prog l W) {n:String} {g:Nat} (ls:List (List UInt8)) (hne:ls≠ [])
 (hm:(n,DataW.slice (ls.map fun x=> .lit (.string x)) [])∈l) (hg:prog.globalNamed n=some g) (hty:(prog.globals[g]?).map (·.type)=some 49) (hcs:prog.cellsOf 9=1):
 ∃b o c,W.cell? ⟨g,0,none⟩=some (.slice (some ⟨b,o,none⟩) ls.length c)/\∀j,j<ls.length->W.cell? ⟨b,o+j,none⟩=some (.string ⟨(ls.getD j []).toArray⟩):=by
 obtain⟨g',t,cs,fuel,p,h1,h2,h3,h4⟩:=zM3 h hm;obtain rfl:g=g':=Option.some.inj (hg.symm.trans h1);obtain rfl:t=49:=(Option.some.inj (hty.symm.trans h2)).symm;rcases open_strings underlying49 underlying9 hcs h4 with ⟨_,hx⟩|⟨a,len,cap,ss,hcs2,_,hl,hm2,hz,hx,hcell,_⟩
 ·cases hx
 ·have hc0:=World.var?_cell hg h3 0;have hcs3:cs[0]? =some (.slice (some a) len cap):=by
   rw [<-Array.getElem?_toList,hcs2];rfl
  rw [hcs3] at hc0;simp only [Prod.mk.injEq,DataW.slice.injEq] at hx;obtain⟨⟨e1,e2⟩,_⟩:=hx;have hss:(ss.take len).map (fun s=>s.data.toList)=ls:=by
   have h5:∀(zs:List BA) (ys:List (List UInt8)),ys.map (fun x=>(DataW.lit (.string x):DataW Unit))=strs zs->zs.map (fun s=>s.data.toList)=ys:=by
    intro zs
    induction zs with
    |nil=>intro ys hy;cases ys with|nil=>rfl|cons _ _=>simp [strs] at hy
    |cons z zs ih=>
     intro ys hy;cases ys with
     |nil=>simp [strs] at hy
     |cons y ys=>
      simp only [strs,List.map_cons,List.cons.injEq,DataW.lit.injEq,Lit.string.injEq] at hy |-;exact⟨hy.1.symm,ih ys hy.2⟩
   exact h5 _ _ e1
  have hslen:ss.length=cap:=by simpa using hz
  have hlen:len=ls.length:=by
   rw [<-hss,List.length_map,List.length_take,hslen];omega
  have hpos:0<ss.length:=by
   have:0<ls.length:=List.length_pos_iff.2 hne;omega
  obtain⟨b,o,sp⟩:=a;have hsp:sp=none:=by
   have h6:=hcell 0 hpos;unfold World.cell? at h6;cases sp with
   |none=>rfl
   |some k=>
    exfalso;have hsome:((⟨b,o,some k⟩:Addr).add 0).spot.isSome=true:=by unfold Addr.add;split<;>simp_all
    rw [hsome] at h6
    split at h6
    ·simp at h6
    ·cases h6
  subst hsp;refine⟨b,o,cap,by rw [hc0,hlen],fun j hj=>?_⟩;have h6:=hcell j (by omega);have hadd:(⟨b,o,none⟩:Addr).add j=⟨b,o+j,none⟩:=by unfold Addr.add;split<;>simp_all
  rw [hadd] at h6;rw [h6];have h7:(ls.getD j [])=(ss.getD j ByteArray.empty).data.toList:=by
   have hj2:j<ss.length:=(by omega);rw [<-hss,List.getD_eq_getElem?_getD,List.getElem?_map,List.getElem?_take,kD (by omega),kB hj2,List.getD_eq_getElem?_getD,kB hj2]
   rfl
  rw [h7]
theorem zTR {W:World} {l:List (String × DataW Unit)} (h:laidMet prog l W) {n:String} {g:Nat} {nm:String} {d:DataW Unit} {ti:TypeId} {ms:Array (String × TypeId)}
 (hm:(n,DataW.iface nm d)∈l) (hg:prog.globalNamed n=some g) (hty:(prog.globals[g]?).map (·.type)=some ti) (hi:prog.underlying ti=some (.interface ms)):
 ∃te pe,W.cell? ⟨g,0,none⟩=some (.iface te pe):=by
 obtain⟨g',t,cs,fuel,p,h1,h2,h3,h4⟩:=zM3 h hm;obtain rfl:g=g':=Option.some.inj (hg.symm.trans h1);obtain rfl:t=ti:=(Option.some.inj (hty.symm.trans h2)).symm;obtain⟨_,u,v,hcs2,_⟩:=iface_of_trod hi h4;have hc0:=World.var?_cell hg h3 0;have hcs3:cs[0]? =some (.iface u v):=by
  rw [<-Array.getElem?_toList,hcs2];rfl
 exact⟨u,v,by rw [hc0,hcs3]⟩
section
variable {H:Type} {enc:TypeId × Value->H} {P:Program} {w:World} {base:Nat} {spare:Nat->Bool} {held:Bool}
theorem arr_at {t e:TypeId} {n c fuel:Nat} {cs:List Value} {ds:List (DataW H)} {p:List MemPlace} (ht:P.underlying t=some (.array n e)) (hce:P.cellsOf e=c) (h:DataW.trod enc P w base spare held fuel t cs=some (.agg ds,p)) {i:Nat} {d:DataW H} (hd:ds[i]? =some d):
 ∃m q,DataW.trod enc P w base spare held m e ((cs.drop (i*c)).take c)=some (d,q):=by
 obtain⟨xs,m,_,hx,_,hl,hf⟩:=DataW.trod_array ht h;simp only [Prod.mk.injEq,DataW.agg.injEq] at hx;obtain⟨rfl,_⟩:=hx;rw [List.getElem?_map] at hd;obtain⟨y,hy,rfl⟩:=Option.map_eq_some_iff.1 hd;have hi:i<n:=by have:=(kJ.1 hy).1;omega
 have h1:=hf i hi;rw [hce,hy] at h1;exact⟨m,y.2,h1⟩
theorem zQD {t:TypeId} {fs:Array Field} {fuel:Nat} {cs:List Value} {ds:List (DataW H)} {p:List MemPlace} (ht:P.underlying t=some (.struct fs)) (hone:Go.Deep.oneCellFields P fs=true) (hC:P.cellsOf t=fs.size)
 (h:DataW.trod enc P w base spare held fuel t cs=some (.agg ds,p)) {j:Nat} {f:Field} {d:DataW H} (hf0:fs[j]? =some f) (hd:ds[j]? =some d):∃v m q,cs[j]? =some v/\DataW.trod enc P w base spare held m f.type [v]=some (d,q):=by
 obtain⟨xs,n,_,hx,hl,hxl,hf⟩:=DataW.trod_struct ht h;simp only [Prod.mk.injEq,DataW.agg.injEq] at hx;obtain⟨rfl,_⟩:=hx;rw [List.getElem?_map] at hd;obtain⟨y,hy,rfl⟩:=Option.map_eq_some_iff.1 hd;obtain⟨ho,hk⟩:=Go.Deep.hone_of hone j f hf0;have hjl:j<fs.size:=(Array.getElem?_eq_some_iff.1 hf0).1;have h1:=hf j f hf0;have hcl:j<cs.length:=by rw [hl,hC];exact hjl
 rw [ho,hk,Go.Deep.take1_drop cs j undef hcl,hy] at h1;exact⟨cs.getD j undef,n,y.2,by simp [List.getD,List.getElem?_eq_getElem hcl],h1⟩
end
theorem zUH {W:World} {l:List (String × DataW Unit)} (h:laidMet prog l W) {nm:String} {ds:List (DataW Unit)} {g:Nat} {t e:TypeId} {n c:Nat} (hm:(nm,DataW.agg ds)∈l) (hg:prog.globalNamed nm=some g) (hty:(prog.globals[g]?).map (·.type)=some t) (ht:prog.underlying t=some (.array n e)) (hce:prog.cellsOf e=c) {i:Nat} {d:DataW Unit} (hd:ds[i]? =some d):
 ∃(cs:Array Value) (m:Nat) (q:List MemPlace),(∀j,W.cell? ⟨g,j,none⟩=cs[j]?)/\DataW.trod (fun _=>()) prog W 0 (fun _=>true) false m e ((cs.toList.drop (i*c)).take c)=some (d,q):=by
 obtain⟨g',t',cs,fuel,p,h1,h2,h3,h4⟩:=zM3 h hm;obtain rfl:g=g':=Option.some.inj (hg.symm.trans h1);obtain rfl:t'=t:=(Option.some.inj (hty.symm.trans h2)).symm;obtain⟨m,q,h5⟩:=arr_at ht hce h4 hd;exact⟨cs,m,q,fun j=>World.var?_cell hg h3 j,h5⟩
theorem zS0 {cs:Array Value} {i:Nat} {v:Value} (h:(cs.toList.drop (i*1)).take 1= [v]):cs[i]? =some v:=by
 have:=congrArg (·[0]?) h;rw [Nat.mul_one] at this
 simpa [List.getElem?_take,List.getElem?_drop] using this
def codesD:List (DataW Unit):= [.lit (.int .i64 8),.lit (.int .i64 8),.lit (.int .i64 5),.lit (.int .i64 5),.lit (.int .i64 5),.lit (.int .i64 8),.lit (.int .i64 5),.lit (.int .i64 4),.lit (.int .i64 4),.lit (.int .i64 2),.lit (.int .i64 4),.lit (.int .i64 4),.lit (.int .i64 2)]
theorem zT3 {W:World} (h:laidMetH prog Rows.compilerProgramsRow.laid W) (i:Nat) (hi:i<13):W.cell? ⟨0,i,none⟩=some (.int .i64 (Ck.code i:Nat)):=by
 have hl:laidMet prog Rows.compilerProgramsRow.laid W:=h;have hd:∀i,i<13->codesD[i]? =some (.lit (.int .i64 (Ck.code i:Nat))):=by
  intro i hi
  match i,hi with
  |0,_=>rfl
  |1,_=>rfl
  |2,_=>rfl
  |3,_=>rfl
  |4,_=>rfl
  |5,_=>rfl
  |6,_=>rfl
  |7,_=>rfl
  |8,_=>rfl
  |9,_=>rfl
  |10,_=>rfl
  |11,_=>rfl
  |12,_=>rfl
 obtain⟨cs,m,q,hc,ht⟩:=zUH hl (g:=0) (t:=100) (e:=30) (n:=13) (c:=1) (ds:=codesD) (kM (i:=9) rfl) (by kernel_rfl) (by kernel_rfl) underlying100 (by kernel_rfl) (hd i hi);obtain⟨a,ha,hz,_⟩:=DataW.trod_int underlying30 ht;simp only [Prod.mk.injEq,DataW.lit.injEq,Lit.int.injEq,true_and] at hz;rw [hc i,zS0 ha,hz.1]
noncomputable def formFs:Array Field:=match prog.underlying 179 with|some (.struct fs)=>fs|_=> #[]
theorem formSt:prog.underlying 179=some (.struct formFs):=by kernel_rfl
theorem formOne:Go.Deep.oneCellFields prog formFs=true:=by kernel_rfl
theorem formCellsOf:prog.cellsOf 179=5:=by kernel_rfl
theorem formTs:formFs.toList.map (·.type)= [3,3,4,4,4]:=by kernel_rfl
def formD:Nat->List (DataW Unit)
 |0=> [.lit (.int .i64 1),.lit (.int .i64 1),.lit (.bool true),.lit (.bool false),.lit (.bool false)]
 |1=> [.lit (.int .i64 1),.lit (.int .i64 1),.lit (.bool true),.lit (.bool false),.lit (.bool false)]
 |2=> [.lit (.int .i64 2),.lit (.int .i64 2),.lit (.bool true),.lit (.bool false),.lit (.bool false)]
 |3=> [.lit (.int .i64 1),.lit (.int .i64 1),.lit (.bool false),.lit (.bool true),.lit (.bool true)]
 |4=> [.lit (.int .i64 1),.lit (.int .i64 1),.lit (.bool false),.lit (.bool true),.lit (.bool false)]
 |5=> [.lit (.int .i64 1),.lit (.int .i64 4611686018427387904),.lit (.bool true),.lit (.bool false),.lit (.bool false)]
 |6=> [.lit (.int .i64 1),.lit (.int .i64 1),.lit (.bool false),.lit (.bool false),.lit (.bool false)]
 |7=> [.lit (.int .i64 2),.lit (.int .i64 2),.lit (.bool false),.lit (.bool false),.lit (.bool false)]
 |8=> [.lit (.int .i64 2),.lit (.int .i64 2),.lit (.bool true),.lit (.bool false),.lit (.bool false)]
 |9=> [.lit (.int .i64 0),.lit (.int .i64 0),.lit (.bool false),.lit (.bool false),.lit (.bool false)]
 |_=> []
def formsD:List (DataW Unit):= [.agg [.lit (.int .i64 1),.lit (.int .i64 1),.lit (.bool true),.lit (.bool false),.lit (.bool false)],.agg [.lit (.int .i64 1),.lit (.int .i64 1),.lit (.bool true),.lit (.bool false),.lit (.bool false)],.agg [.lit (.int .i64 2),.lit (.int .i64 2),.lit (.bool true),.lit (.bool false),.lit (.bool false)],.agg [.lit (.int .i64 1),.lit (.int .i64 1),.lit (.bool false),.lit (.bool true),.lit (.bool true)],.agg [.lit (.int .i64 1),.lit (.int .i64 1),.lit (.bool false),.lit (.bool true),.lit (.bool false)],.agg [.lit (.int .i64 1),.lit (.int .i64 4611686018427387904),.lit (.bool true),.lit (.bool false),.lit (.bool false)],.agg [.lit (.int .i64 1),.lit (.int .i64 1),.lit (.bool false),.lit (.bool false),.lit (.bool false)],.agg [.lit (.int .i64 2),.lit (.int .i64 2),.lit (.bool false),.lit (.bool false),.lit (.bool false)],.agg [.lit (.int .i64 2),.lit (.int .i64 2),.lit (.bool true),.lit (.bool false),.lit (.bool false)],.agg [.lit (.int .i64 0),.lit (.int .i64 0),.lit (.bool false),.lit (.bool false),.lit (.bool false)]]
theorem zTY {W:World} (h:laidMetH prog Rows.compilerProgramsRow.laid W) (j:Nat) (u:Value) (hu:formCells[j]? =some u):W.cell? ⟨2,j,none⟩=some u:=by
 have hl:laidMet prog Rows.compilerProgramsRow.laid W:=h;have hj:j<50:=(kJ.1 hu).1;have hd:∀i,i<10->formsD[i]? =some (.agg (formD i)):=by
  intro i hi
  match i,hi with
  |0,_=>rfl
  |1,_=>rfl
  |2,_=>rfl
  |3,_=>rfl
  |4,_=>rfl
  |5,_=>rfl
  |6,_=>rfl
  |7,_=>rfl
  |8,_=>rfl
  |9,_=>rfl
 have hfs:formFs.size=5:=by
  have:=congrArg List.length formTs
  simpa using this
 obtain⟨cs,m,q,hc,ht⟩:=zUH hl (g:=2) (t:=180) (e:=179) (n:=10) (c:=5) (ds:=formsD) (kM (i:=8) rfl) (by kernel_rfl) (by kernel_rfl) underlying180 formCellsOf (hd (j / 5) (by omega));have key:∀(a b:Nat) (f:Field) (d:DataW Unit),j=a*5+b->b<5->formFs[b]? =some f->(formD a)[b]? =some d->j / 5=a->∃v m q,cs[j]? =some v/\DataW.trod (fun _=>()) prog W 0 (fun _=>true) false m f.type [v]=some (d,q):=by
  intro a b f d hab hb hf hdd ha;rw [ha] at ht;obtain⟨v,m,q,h1,h2⟩:=zQD formSt formOne (by rw [formCellsOf,hfs]) ht hf hdd;refine⟨v,m,q,?_,h2⟩;rw [List.getElem?_take_of_lt hb,List.getElem?_drop,<-hab] at h1;rw [<-Array.getElem?_toList];exact h1
 obtain⟨f0,g0,e0⟩:=zAN formTs (j:=0) rfl;obtain⟨f1,g1,e1⟩:=zAN formTs (j:=1) rfl;obtain⟨f2,g2,e2⟩:=zAN formTs (j:=2) rfl;obtain⟨f3,g3,e3⟩:=zAN formTs (j:=3) rfl;obtain⟨f4,g4,e4⟩:=zAN formTs (j:=4) rfl;have geti:∀(a b:Nat) (f:Field) (z:Int),j=a*5+b->b<5->formFs[b]? =some f->f.type=3->(formD a)[b]? =some (.lit (.int .i64 z))->j / 5=a->W.cell? ⟨2,j,none⟩=some (.int .i64 z):=by
  intro a b f z hab hb hf hft hdd ha;obtain⟨v,m,q,h1,h2⟩:=key a b f _ hab hb hf hdd ha;rw [hft] at h2;obtain⟨y,hy,hz,_⟩:=DataW.trod_int underlying3 h2;simp only [Prod.mk.injEq,DataW.lit.injEq,Lit.int.injEq,true_and] at hz;simp only [List.cons.injEq,and_true] at hy;rw [hc j,h1,hy,hz.1]
 have getb:∀(a b:Nat) (f:Field) (z:Bool),j=a*5+b->b<5->formFs[b]? =some f->f.type=4->(formD a)[b]? =some (.lit (.bool z))->j / 5=a->W.cell? ⟨2,j,none⟩=some (.bool z):=by
  intro a b f z hab hb hf hft hdd ha;obtain⟨v,m,q,h1,h2⟩:=key a b f _ hab hb hf hdd ha;rw [hft] at h2;obtain⟨y,hy,hz⟩:=DataW.trod_bool underlying4 h2;simp only [Prod.mk.injEq,DataW.lit.injEq,Lit.bool.injEq] at hz;simp only [List.cons.injEq,and_true] at hy;rw [hc j,h1,hy,hz.1]
 clear ht hd key
 match j,hj with
 |0,_=>cases hu;exact geti 0 0 f0 _ rfl (by decide) g0 e0 rfl rfl
 |1,_=>cases hu;exact geti 0 1 f1 _ rfl (by decide) g1 e1 rfl rfl
 |2,_=>cases hu;exact getb 0 2 f2 _ rfl (by decide) g2 e2 rfl rfl
 |3,_=>cases hu;exact getb 0 3 f3 _ rfl (by decide) g3 e3 rfl rfl
 |4,_=>cases hu;exact getb 0 4 f4 _ rfl (by decide) g4 e4 rfl rfl
 |5,_=>cases hu;exact geti 1 0 f0 _ rfl (by decide) g0 e0 rfl rfl
 |6,_=>cases hu;exact geti 1 1 f1 _ rfl (by decide) g1 e1 rfl rfl
 |7,_=>cases hu;exact getb 1 2 f2 _ rfl (by decide) g2 e2 rfl rfl
 |8,_=>cases hu;exact getb 1 3 f3 _ rfl (by decide) g3 e3 rfl rfl
 |9,_=>cases hu;exact getb 1 4 f4 _ rfl (by decide) g4 e4 rfl rfl
 |10,_=>cases hu;exact geti 2 0 f0 _ rfl (by decide) g0 e0 rfl rfl
 |11,_=>cases hu;exact geti 2 1 f1 _ rfl (by decide) g1 e1 rfl rfl
 |12,_=>cases hu;exact getb 2 2 f2 _ rfl (by decide) g2 e2 rfl rfl
 |13,_=>cases hu;exact getb 2 3 f3 _ rfl (by decide) g3 e3 rfl rfl
 |14,_=>cases hu;exact getb 2 4 f4 _ rfl (by decide) g4 e4 rfl rfl
 |15,_=>cases hu;exact geti 3 0 f0 _ rfl (by decide) g0 e0 rfl rfl
 |16,_=>cases hu;exact geti 3 1 f1 _ rfl (by decide) g1 e1 rfl rfl
 |17,_=>cases hu;exact getb 3 2 f2 _ rfl (by decide) g2 e2 rfl rfl
 |18,_=>cases hu;exact getb 3 3 f3 _ rfl (by decide) g3 e3 rfl rfl
 |19,_=>cases hu;exact getb 3 4 f4 _ rfl (by decide) g4 e4 rfl rfl
 |20,_=>cases hu;exact geti 4 0 f0 _ rfl (by decide) g0 e0 rfl rfl
 |21,_=>cases hu;exact geti 4 1 f1 _ rfl (by decide) g1 e1 rfl rfl
 |22,_=>cases hu;exact getb 4 2 f2 _ rfl (by decide) g2 e2 rfl rfl
 |23,_=>cases hu;exact getb 4 3 f3 _ rfl (by decide) g3 e3 rfl rfl
 |24,_=>cases hu;exact getb 4 4 f4 _ rfl (by decide) g4 e4 rfl rfl
 |25,_=>cases hu;exact geti 5 0 f0 _ rfl (by decide) g0 e0 rfl rfl
 |26,_=>cases hu;exact geti 5 1 f1 _ rfl (by decide) g1 e1 rfl rfl
 |27,_=>cases hu;exact getb 5 2 f2 _ rfl (by decide) g2 e2 rfl rfl
 |28,_=>cases hu;exact getb 5 3 f3 _ rfl (by decide) g3 e3 rfl rfl
 |29,_=>cases hu;exact getb 5 4 f4 _ rfl (by decide) g4 e4 rfl rfl
 |30,_=>cases hu;exact geti 6 0 f0 _ rfl (by decide) g0 e0 rfl rfl
 |31,_=>cases hu;exact geti 6 1 f1 _ rfl (by decide) g1 e1 rfl rfl
 |32,_=>cases hu;exact getb 6 2 f2 _ rfl (by decide) g2 e2 rfl rfl
 |33,_=>cases hu;exact getb 6 3 f3 _ rfl (by decide) g3 e3 rfl rfl
 |34,_=>cases hu;exact getb 6 4 f4 _ rfl (by decide) g4 e4 rfl rfl
 |35,_=>cases hu;exact geti 7 0 f0 _ rfl (by decide) g0 e0 rfl rfl
 |36,_=>cases hu;exact geti 7 1 f1 _ rfl (by decide) g1 e1 rfl rfl
 |37,_=>cases hu;exact getb 7 2 f2 _ rfl (by decide) g2 e2 rfl rfl
 |38,_=>cases hu;exact getb 7 3 f3 _ rfl (by decide) g3 e3 rfl rfl
 |39,_=>cases hu;exact getb 7 4 f4 _ rfl (by decide) g4 e4 rfl rfl
 |40,_=>cases hu;exact geti 8 0 f0 _ rfl (by decide) g0 e0 rfl rfl
 |41,_=>cases hu;exact geti 8 1 f1 _ rfl (by decide) g1 e1 rfl rfl
 |42,_=>cases hu;exact getb 8 2 f2 _ rfl (by decide) g2 e2 rfl rfl
 |43,_=>cases hu;exact getb 8 3 f3 _ rfl (by decide) g3 e3 rfl rfl
 |44,_=>cases hu;exact getb 8 4 f4 _ rfl (by decide) g4 e4 rfl rfl
 |45,_=>cases hu;exact geti 9 0 f0 _ rfl (by decide) g0 e0 rfl rfl
 |46,_=>cases hu;exact geti 9 1 f1 _ rfl (by decide) g1 e1 rfl rfl
 |47,_=>cases hu;exact getb 9 2 f2 _ rfl (by decide) g2 e2 rfl rfl
 |48,_=>cases hu;exact getb 9 3 f3 _ rfl (by decide) g3 e3 rfl rfl
 |49,_=>cases hu;exact getb 9 4 f4 _ rfl (by decide) g4 e4 rfl rfl
theorem coEnv_of {W:World} (h:laidMetH prog Rows.compilerProgramsRow.laid W):CoEnv W:=by
 have hl:laidMet prog Rows.compilerProgramsRow.laid W:=h;have hk:=zIY hl (g:=5) Lex.zAH (by decide) (kM (i:=6) rfl) (by kernel_rfl) (by kernel_rfl) (by kernel_rfl);have hs:=zIY hl (g:=4) Lex.symbols (by decide) (kM (i:=7) rfl) (by kernel_rfl) (by kernel_rfl) (by kernel_rfl);exact⟨⟨⟨hk,hs,zTR hl (g:=10) (kM (i:=4) rfl) (by kernel_rfl) (by kernel_rfl) underlying245⟩,zTY h⟩,zT3 h⟩
end
section
open Go.RowKit Go.WideShapes Go.ChangeShapes
section
variable {H:Type} {enc:TypeId × Value->H} {P:Program}
theorem zE6 (hl:laidOutB P=true) {W W':World} {sp:Nat->Bool}:∀ {ts:List TypeId} {vs:List Value} {ds:List (DataW H)} {ps:List MemPlace},(∀t∈ts,P.readableRec t=true/\t<P.types.size)->
 DataW.TrodAll enc P W 0 (fun _=>true) true ts vs ds ps->(∀p∈ps,W.sameAt W' p)->(∀p∈ps,sp p.block=true)->DataW.TrodAll enc P W' 0 sp true ts vs ds ps
 | [],[],[],ps,_,h,_,_=>h
 |t::ts,v::vs,d::ds,ps,hr,h,hsame,hs=>by
  obtain⟨p,q,h1,h2,rfl⟩:=h;obtain⟨r1,r2⟩:=hr t (by simp);exact⟨p,q,WideElems.Trod_stays hl r1 r2 h1 (fun x hx=>hsame x (by simp [hx])) (fun x hx=>hs x (by simp [hx])),
   zE6 hl (fun t ht=>hr t (by simp [ht])) h2 (fun x hx=>hsame x (by simp [hx])) (fun x hx=>hs x (by simp [hx])),rfl⟩
 | [],[],_ ::_,_,_,h,_,_=>h.elim
 | [],_ ::_,_,_,_,h,_,_=>h.elim
 |_ ::_,[],_,_,_,h,_,_=>h.elim
 |_ ::_,_ ::_,[],_,_,h,_,_=>h.elim
theorem post_all (hl:laidOutB P=true) {f:Func} {s:ChangeSpec} {apart fresh handsOn again:Bool} {W W':World} {args:Array Value} {v:Value} {ds gs:List (DataW H)} {before:List MemPlace}
 (hW:DataW.Whole enc P f.params.toList s.vars apart W args.toList ds gs before) (hv:s.vars= []) (hr:∀t∈f.params.toList,P.readableRec t=true/\t<P.types.size) (hb:Below W.heap.size W W')
 (hres:∀(b:Nat) (sp:Nat->Bool) (hd:Bool),DataW.TrodAll enc P W' b sp hd f.resultTypes.toList (v.resultList f.resultTypes.size) (s.fn H (ds++gs)).results [])
 (hsa:(s.fn H (ds++gs)).args=ds) (hsv:(s.fn H (ds++gs)).vars= [])
 (hok:∀(j:Nat) (t:TypeId) (r:Value),f.resultTypes[j]? =some t->(v.resultList f.resultTypes.size)[j]? =some r->Value.okWide P W' .any 0 t r):
 s.post enc P f apart fresh handsOn again W args v W':=by
 have hW0:=hW;obtain⟨p,q,hA,hV,hpq,hz,hn⟩:=hW;have hlt:∀x∈before,x.block<W.heap.size:=fun x hx=>hW0.lt x hx
 obtain⟨rfl,hq⟩:before=p/\q= []:=by
  rw [hv] at hV;cases gs with
  |nil=>exact ⟨by rw [hpq,show q= [] from hV];simp,hV⟩
  |cons=>exact hV.elim
 have hargs:∀sp:Nat->Bool,(∀x∈before,sp x.block=true)->DataW.TrodAll enc P W' 0 sp true f.params.toList args.toList (s.fn H (ds++gs)).args before:=fun sp hsp=>by
  rw [hsa];exact zE6 hl hr hA (fun x hx=>hb.same (hlt x hx)) hsp
 have hvars:∀sp:Nat->Bool,DataW.TrodVars enc P W' sp s.vars (s.fn H (ds++gs)).vars []:=fun sp=>by rw [hv,hsv];rfl
 have old:∀x∈before,decide (x.block<W.heap.size)=true:=fun x hx=>kS (hlt x hx)
 refine⟨ds,gs,before,[],before,[],hW0,hres _ _ _,hargs (fun b=>decide (b<W.heap.size)) old,hvars _,World.keptBut_mono (fun x hx=>⟨hx,.inr (by simpa using hx)⟩) (hb.frame (· ∈before)),fun _=>⟨hok,?_⟩⟩;refine⟨_,_,([]++before)++ [],⟨[]++before,[],trodAll_append (hargs _ (fun _ _=>rfl)) (hres _ _ _),hvars _,rfl,fun b off hp=>?_,fun ha=>?_⟩,fun x hx _=>by simpa using hx⟩
 ·have hin:MemPlace.cell b off∈before:=by simpa using hp
  rw [hb.frozen (of_decide_eq_true (old _ hin))];exact hz b off (by simpa using hin)
 ·simpa using hn ha
end
end
section
open Go.RowKit Go.ChangeShapes Go.WideShapes
noncomputable def structFs (t:Nat):Array Field:=match prog.underlying t with|some (.struct fs)=>fs|_=> #[]
theorem typesC:TypesC prog 24 55 22 62 53 49 71 60 37 35 3 2 9 4 where
 int:=underlying3
 i64:=underlying2
 str:=underlying9
 bool:=underlying4
 sl:=underlying35
 st:=⟨structFs 37,by kernel_rfl,by kernel_rfl,by kernel_rfl⟩
 size:=by kernel_rfl
 slS:=underlying60
 stS:=⟨structFs 71,by kernel_rfl,by kernel_rfl,by kernel_rfl⟩
 sizeS:=by kernel_rfl
 strs:=underlying49
 sizeStr:=by kernel_rfl
 slM:=underlying53
 stM:=⟨structFs 62,by kernel_rfl,by kernel_rfl,by kernel_rfl⟩
 sizeM:=by kernel_rfl
 slC:=underlying22
 stC:=⟨structFs 55,by kernel_rfl,by kernel_rfl,by kernel_rfl⟩
 sizeC:=by kernel_rfl
 stP:=⟨structFs 24,by kernel_rfl,by kernel_rfl,by kernel_rfl⟩
 sizeP:=by kernel_rfl
theorem open_prog {H:Type} {enc:TypeId × Value->H} {W:World} {r:Reach} {b0:Nat} {base:Nat} {sp:Nat->Bool} {held:Bool} {v:Value} {d:DataW H} {p:List MemPlace} (hv:Value.okWide prog W r b0 24 v) (h:DataW.Trod enc prog W base sp held 24 v d p):
 ∃l a,v= .agg #[a]/\SlC W a l:=by
 obtain⟨fs,h1,h2,h3⟩:=typesC.stP;have hfs:fs.size=1:=by have:=congrArg List.length h3;simpa using this
 obtain⟨cs,rfl,hsz⟩:=okWide_struct h1 hv;obtain⟨fuel,hf⟩:=h;obtain⟨n,hn,hl,hx⟩:=zDE h1 h2 (by rw [typesC.sizeP,hfs]) hf;obtain⟨f0,g0,e0⟩:=zAN h3 (j:=0) rfl;obtain⟨v0,y0,c0,t0⟩:=hx 0 f0 g0;rw [e0] at t0;obtain⟨u,l,hu,hs⟩:=zLF typesC t0;cases hu;refine⟨l,v0,?_,hs⟩;have hz:cs.size=1:=hsz.trans typesC.sizeP
 congr 1
 apply Array.ext
 ·simp [hz]
 ·intro i h1 h2;have hi:i=0:=(by omega);subst hi;have hc:cs.toList[0]? =some v0:=by simpa [Value.cells] using c0
  rw [Array.getElem?_toList] at hc;have:=(Array.getElem?_eq_some_iff.1 hc).2
  simpa using this
theorem own:ownKnob prog.godebug=none:=by kernel_rfl
theorem laidOut:laidOutB prog=true:=by kernel_rfl
def rowOf:DataW Unit->List Value
 | .agg l=>l.map fun| .lit (.int k n)=> .int k n| .lit (.bool b)=> .bool b| .lit (.string s)=> .string ⟨s.toArray⟩|_=> .nilIface
 |_=> []
def rowsOf:DataW Unit->List Value
 | .agg l=>l.flatMap rowOf
 |_=> []
def strsOf (l:List (List UInt8)):Array Value:=(l.map fun x=>Value.string ⟨x.toArray⟩).toArray
noncomputable def laidWorld (os:Os):World:=
 let N:=(World.settled prog os).heap.size
 let w0:=World.holding prog os ⟨#[
  .cells (strsOf Lex.zAH) 9,.cells (strsOf Lex.symbols) 9,
  .cells #[.string ⟨#[105,110,118,97,108,105,100,32,115,121,110,116,97,120]⟩] 284,
  .cells #[.string ⟨#[118,97,108,117,101,32,111,117,116,32,111,102,32,114,97,110,103,101]⟩] 284],#[],[]⟩
 let put (h:Array Obj) (g:Nat) (cs:Array Value):Array Obj:=h.modify g fun
  | .cells _ t frozen=> .cells cs t frozen
  |o=>o
 let h:=put w0.heap 5 #[.slice (some ⟨N,0,none⟩) 24 24]
 let h:=put h 4 #[.slice (some ⟨N+1,0,none⟩) 19 19]
 let h:=put h 9 #[.iface 282 (.pointer (some ⟨N+2,0,none⟩))]
 let h:=put h 10 #[.iface 282 (.pointer (some ⟨N+3,0,none⟩))]
 let h:=put h 11 (rowOf Go.Pinned.utf8First).toArray
 let h:=put h 12 (rowsOf Rows.laid_unicode_utf8_acceptRanges).toArray
 let h:=put h 3 (rowOf Rows.laid_internal_strconv_uint64pow10).toArray
 let h:=put h 6 (rowOf Rows.laid_math_bits_deBruijn32tab).toArray
 let h:=put h 7 (rowOf Rows.laid_math_bits_deBruijn64tab).toArray
 let h:=put h 0 (rowOf Rows.laid_refmesh_checker_codes).toArray
 let h:=put h 1 (rowOf Rows.laid_refmesh_bytecode_operators).toArray
 let h:=put h 2 (rowsOf Rows.laid_refmesh_syntax_forms).toArray
 { w0 with heap:=h }
theorem laid_met (os:Os) (args:Array Value):laidMet prog Rows.compilerProgramsRow.laid ((laidWorld os).forCall (fun _ _=>0) ⟨#[],args,[]⟩).memory:=
 laidMet_of_run' 8 (by kernel_rfl) (by kernel_rfl)
end
end Go.Proofs.YtcnmfcgmnkncaaaGreatDoor
