/-
  CoRows, CoCheck, CoProg.
-/
import Derived.Test.YtcnmfcgmnkncaaaGreatDoorX17
import Derived.Test.YtcnmfcgmnkncaaaGreatDoorX24
import Derived.Lib.SliceRun
set_option maxRecDepth 100000
set_option maxHeartbeats 40000000
open Go.Proofs.Tryz
namespace Go.Proofs.YtcnmfcgmnkncaaaGreatDoor
section
namespace Cw
open Go.RowKit Go.Maps Pw
theorem clone_any (v:Value) (l:List BA) (w:World) (h:SlStr w v l) (hl:l.length<=1000000):
 Calls prog 34 #[v] w fun e w'=>∃v',e= .returned v'/\Below w.heap.size w w'/\SlStr (hide (upL w.heap.size []) w') v' l:=by
 obtain⟨i0,hi,hz0,hz1,hz2⟩:=info_parts strInfo;have q49:∀(w:World) (a:Option Addr) (n c n' c':Nat),(binOp .eql 49 (.slice a n c) (.slice none n' c')).run prog w= .ok (.bool a.isNone) w:=fun w a n c n' c'=>Lib.run_eql_slice_nil w _ _ a n c n' c' underlying49
 have u49:∀w,Sem.run prog (underlying 49) w= .ok (TypeDesc.slice 9) w:=run_underlying underlying49;obtain⟨p,c,rfl,hm,hn,hx⟩:=h;by_cases h0:l= []
 ·subst h0;rw [kQ];cases p with
  |none=>
   clear hx hn hm hl;go_in;go_wp2;go_ret;exact⟨_,rfl,Below.refl _ _,zK2 _ _ _⟩
  |some a=>
   clear hx hn hm hl;go_in;go_wp2_with (at_builtin;refine wpList_append_own _ rfl _ _ 49 rfl w.heap.size 9 i0 (.string ⟨#[]⟩) 1 16 underlying49 hi hz0 hz1 hz2 rfl (by decide) _ _ _ rfl (World.ownsRow_made w #[] 0 (kL _) (kO _) rfl) a 0 c [] rfl rfl (by intro j u hj;simp at hj) (by intro u hu;cases hu) (by unfold maxLen;omega) (by omega) (by simp) ?_);intro v' w1 hown hgrow hnil;go_wp2;go_ret;have hown2:w1.ownsRow w.heap.size 9 1 v' ([]:List BA).length (flatV nCells []):=by simpa [flatV] using hown
   exact⟨v',rfl,((Below.refl _ w).alloc (kL _) _).grown hgrow (by simp) (by intro k hk;simp [Value.ownBlock] at hk;omega),slStr_own (zCB hown2 (fun k hk=>zCE (zAE hown2 hk).1 (by simp))) (fun x hx=>by cases hx)⟩
 ·obtain⟨b,o,rfl⟩:∃b o,p=some ⟨b,o,none⟩:=by
   cases l with
   |nil=>exact absurd rfl h0
   |cons a r=>obtain ⟨_,b,o,e,_⟩:=hx 0 a rfl;exact⟨b,o,e⟩
  have hc:∀j s,l[j]? =some s->w.cell? ⟨b,o+j,none⟩=some (.string s):=fun j s hj=>by
   obtain⟨_,b',o',e,_,h2⟩:=hx j s hj;cases e;exact h2
  have A:=zh hc;have HS:Hid (∀s∈l,s.size<=maxLen):=zh (fun s hs=>by
   obtain⟨j,hj⟩:=List.mem_iff_getElem?.1 hs;exact(hx j s hj).1)
  obtain⟨n,hln⟩:∃q,l.length=q:=⟨_,rfl⟩;rw [hln] at hl hm |-;have HN:=zh hln;clear hc hx hn h0 hln;go_in;go_wp2_with (at_builtin;refine wpList_append_own _ rfl _ _ 49 rfl w.heap.size 9 i0 (.string ⟨#[]⟩) 1 16 underlying49 hi hz0 hz1 hz2 rfl (by decide) _ _ _ rfl (World.ownsRow_made w #[] 0 (kL _) (kO _) rfl) ⟨b,o,none⟩ n c (flatV nCells l) rfl ?qc1 ?qc2 ?qc3 ?qc4 ?qc5 ?qc6 ?_)
  case qc1=>rw [flatV_len nCells 1 zBV,HN.out]
  case qc2=>
   intro j u hj;rw [Addr.add_lit];refine Lib.cell?_alloc_some _ ?_;have hlt:=(kJ.1 hj).1;rw [flatV_len nCells 1 zBV] at hlt;have hx:=kB (l:=l) (i:=j) (by omega);have h2:=flatV_get nCells 1 zBV l j _ 0 (by decide) hx;rw [Nat.mul_one,Nat.add_zero,hj] at h2;have h3:u= .string l[j]:=by injection h2
   rw [h3];exact A j _ hx
  case qc3=>intro u hu;obtain⟨x,_,hx⟩:=List.mem_flatMap.1 hu;obtain rfl:=kT.1 hx;rfl
  case qc4=>unfold maxLen;omega
  case qc5=>omega
  case qc6=>simp
  intro v' w1 hown hgrow hnil;go_wp2;go_ret;have hown2:w1.ownsRow w.heap.size 9 1 v' l.length (flatV nCells l):=by rw [HN.out];simpa using hown
  exact⟨v',rfl,((Below.refl _ w).alloc (kL _) _).grown hgrow (by simp) (by intro k hk;simp [Value.ownBlock] at hk;omega),slStr_own (zCB hown2 (fun k hk=>zCE (zAE hown2 hk).1 (by simp))) HS⟩
structure PS (B0:Nat) (done:List CcT) (ms:List MmT) (vo vm:Value) (W:World):Prop where
 cls:W.ownsRow B0 52 4 vo done.length (flatV ccCells done)
 mts:W.ownsRow B0 59 5 vm ms.length (flatV mmCells ms)
 nd:∀q,vo.ownBlock=some q->vm.ownBlock≠some q
def AC (l:List CcT):World->Prop:=fun U=>∀x∈l,ReadCc U x
def AM (l:List MmT):World->Prop:=fun U=>∀x∈l,ReadMm U x
def R1 (x:MmT):World->Prop:=fun U=>ReadMm U x
def RMm (v:Value) (l:List Co.Cm):World->Prop:=fun U=>SlMm U v l
theorem ac_mn {l:List CcT}:Mn (AC l):=fun _ _ hi h x hx=>zMX _ _ _ hi (h x hx)
theorem am_mn {l:List MmT}:Mn (AM l):=fun _ _ hi h x hx=>zHP _ _ _ hi (h x hx)
theorem r1_mn {x:MmT}:Mn (R1 x):=fun _ _ hi h=>zHP _ _ _ hi h
theorem zUI {v:Value} {l:List Co.Cm}:Mn (RMm v l):=fun _ _ hi h=>SlMm.inc h hi
abbrev Mq (V:Nat) (w:World) (done:List CcT) (ms:List MmT) (vo vm:Value) (bs:List Bk) (os:List (World->Prop)) (W:World):Prop:=Mz w.heap.size V w [] (PS w.heap.size done ms vo vm) (ownL vo++ownL vm) bs os W
abbrev Mp (w:World) (done:List CcT) (ms:List MmT) (vo vm:Value) (bs:List Bk) (os:List (World->Prop)) (W:World):Prop:=Mq w.heap.size w done ms vo vm bs os W
section
variable {w W W':World} {B0 V:Nat} {done:List CcT} {ms:List MmT} {vo vm v':Value} {bs:List Bk} {os:List (World->Prop)}
theorem PS.keep (h:PS B0 done ms vo vm W) (_:W.heap.size<=W'.heap.size) (hk:∀b,b<W.heap.size->(b∈ownL vo++ownL vm\/b<B0)->W'.heap[b]? =W.heap[b]?):PS B0 done ms vo vm W':=
 ⟨zAP h.cls (fun q hq=>hk q (zAE h.cls hq).2 (.inl (kU.2 (.inl (zAL.2 hq))))),zAP h.mts (fun q hq=>hk q (zAE h.mts hq).2 (.inl (kU.2 (.inr (zAL.2 hq))))),h.nd⟩
theorem PS.ol (h:PS B0 done ms vo vm W):∀b∈ownL vo++ownL vm,b<W.heap.size/\B0<=b:=by
 intro b hb;rcases kU.1 hb with hb|hb
 ·exact(zAE h.cls (zAL.1 hb)).symm
 ·exact(zAE h.mts (zAL.1 hb)).symm
theorem ps_nil (B0:Nat) (W:World):PS B0 [] [] (.slice none 0 0) (.slice none 0 0) W:=⟨⟨by simp [flatV],.inl ⟨rfl,rfl⟩⟩,⟨by simp [flatV],.inl ⟨rfl,rfl⟩⟩,fun q e=>by cases e⟩
theorem Mq.start (w:World) (hV:V<=w.heap.size):Mq V w [] [] (.slice none 0 0) (.slice none 0 0) [] [AC []] w:=
 Mz.start (ps_nil _ _) (fun hs hk hq=>PS.keep hq hs hk) (kL _) hV (fun b hb=>by cases hb) (fun r hr=>by rw [kT.1 hr];exact⟨ac_mn,fun x hx=>by cases hx⟩)
theorem Mp.start (w:World):Mp w [] [] (.slice none 0 0) (.slice none 0 0) [] [AC []] w:=Mq.start w (kL _)
theorem Mp.pushM {x:MmT} (h:Mq V w done ms vo vm bs (R1 x::AM ms::os) W) (hr:W'.ownsRow w.heap.size 59 5 v' (ms++ [x]).length (flatV mmCells (ms++ [x]))) (hg:W.grownBy W' vm.ownBlock) (hf:v'.ownBlock=vm.ownBlock\/v'.ownBlock=some W.heap.size):
 Mq V w done (ms++ [x]) vo v' bs (AM (ms++ [x])::os) W':=by
 have hlt:=h.q.ol;have hq:PS w.heap.size done (ms++ [x]) vo v' W':=by
  refine⟨zAP h.q.cls (fun q hq=>hg.block q (zAE h.q.cls hq).2 (fun e=>h.q.nd q hq e.symm)),hr,fun q hq e=>?_⟩;rcases hf with hf|hf
  ·exact h.q.nd q hq (hf▸e)
  ·rw [hf] at e;injection e with e
   have:=(zAE h.q.cls hq).2;omega
 have hgr:Gr W (ownL vo++ownL vm) W' (ownL vo++ownL v'):=by
  refine⟨hg.os,hg.tape,hg.output,hg.size,fun b hb hn=>hg.block b hb (fun e=>hn (kU.2 (.inr (zAL.2 e.symm)))),fun b hb=>?_⟩;rcases kU.1 hb with hb|hb
  ·exact .inl (kU.2 (.inl hb))
  ·rcases hf with hf|hf
   ·exact .inl (kU.2 (.inr (zAL.2 (hf▸zAL.1 hb))))
   ·have e:=zAL.1 hb;rw [hf] at e;injection e with e
    exact .inr (by omega)
 have h2:=Mz.call h hgr hq.ol hq (fun hs hk hq=>hq.keep hs hk);have h3:AM (ms++ [x]) (hide (upL V ((ownL vo++ownL v')++bs.map Prod.fst)) W'):=fun y hy=>by
  rcases kU.1 hy with hy|hy
  ·exact h2.o 1 rfl y hy
  ·rw [kT.1 hy];exact h2.o 0 rfl
 exact(h2.get am_mn h3).few (fun r hr=>by
  rcases kV.1 hr with rfl|hr
  ·exact kH ..
  ·exact kK _ (kK _ (kK _ hr)))
theorem Mp.seal (h:Mq V w done ms vo vm bs (AM ms::os) W):Mq V w done [] vo (.slice none 0 0) bs (RMm vm (ms.map Prod.fst)::os) W:=by
 have hq:PS w.heap.size done [] vo (.slice none 0 0) W:=⟨h.q.cls,⟨by simp [flatV],.inl ⟨rfl,rfl⟩⟩,fun q _ e=>by cases e⟩;have hl:∀b∈ownL vo++ownL (.slice none 0 0),b∈ownL vo++ownL vm:=fun b hb=>by
  rcases kU.1 hb with hb|hb
  ·exact kU.2 (.inl hb)
  ·cases hb
 have h2:=Mz.call h (Gr.wide (Gr.refl W _) (fun b hb=> .inl (hl b hb))) (fun b hb=>h.ol b (hl b hb)) hq (fun hs hk hq=>hq.keep hs hk);have hvis:∀k,vm.ownBlock=some k->upL V ((ownL vo++ownL (.slice none 0 0))++bs.map Prod.fst) k=false:=fun k hk=>by
  refine zCE (kG h.hV (zAE h.q.mts hk).1) (fun hm=>?_);rcases kU.1 hm with hm|hm
  ·rcases kU.1 hm with hm|hm
   ·exact h.q.nd k (zAL.1 hm) hk
   ·cases hm
  ·exact(h.lts hm).2.2 (kU.2 (.inr (zAL.2 hk)))
 have h3:RMm vm (ms.map Prod.fst) (hide (upL V ((ownL vo++ownL (.slice none 0 0))++bs.map Prod.fst)) W):=zS4 (zCB h.q.mts hvis) (h2.o 0 rfl);exact(h2.get zUI h3).few (fun r hr=>by
  rcases kV.1 hr with rfl|hr
  ·exact kH ..
  ·exact kK _ (kK _ hr))
theorem Mp.pushC {x:CcT} (h:Mq V w done [] vo (.slice none 0 0) bs (RMm x.2.2 x.1.methods::RN x.2.1 x.1.fields::AC done::os) W) (hx:x.1.name.size<=maxLen) (hr:W'.ownsRow w.heap.size 52 4 v' (done++ [x]).length (flatV ccCells (done++ [x]))) (hg:W.grownBy W' vo.ownBlock) (hf:v'.ownBlock=vo.ownBlock\/v'.ownBlock=some W.heap.size):
 Mq V w (done++ [x]) [] v' (.slice none 0 0) bs (AC (done++ [x])::os) W':=by
 have hq:PS w.heap.size (done++ [x]) [] v' (.slice none 0 0) W':=⟨hr,⟨by simp [flatV],.inl ⟨rfl,rfl⟩⟩,fun q _ e=>by cases e⟩;have hgr:Gr W (ownL vo++ownL (.slice none 0 0)) W' (ownL v'++ownL (.slice none 0 0)):=by
  refine⟨hg.os,hg.tape,hg.output,hg.size,fun b hb hn=>hg.block b hb (fun e=>hn (kU.2 (.inl (zAL.2 e.symm)))),fun b hb=>?_⟩;rcases kU.1 hb with hb|hb
  ·rcases hf with hf|hf
   ·exact .inl (kU.2 (.inl (zAL.2 (hf▸zAL.1 hb))))
   ·have e:=zAL.1 hb;rw [hf] at e;injection e with e
    exact .inr (by omega)
  ·cases hb
 have h2:=Mz.call h hgr hq.ol hq (fun hs hk hq=>hq.keep hs hk);have h3:AC (done++ [x]) (hide (upL V ((ownL v'++ownL (.slice none 0 0))++bs.map Prod.fst)) W'):=fun y hy=>by
  rcases kU.1 hy with hy|hy
  ·exact h2.o 2 rfl y hy
  ·rw [kT.1 hy];exact⟨hx,h2.o 1 rfl,h2.o 0 rfl⟩
 exact(h2.get ac_mn h3).few (fun r hr=>by
  rcases kV.1 hr with rfl|hr
  ·exact kH ..
  ·exact kK _ (kK _ (kK _ (kK _ hr))))
theorem Mp.fin (h:Mq V w done ms vo vm bs (AC done::os) W):Below w.heap.size w W/\SlCc (hide (upL V []) W) vo (done.map Prod.fst):=by
 refine⟨h.gr.fresh,zS7 (zCB h.q.cls (fun k hk=>zCE (kG h.hV (zAE h.q.cls hk).1) (by simp))) (ac_mn _ _ (zEG (kL _) (fun _ hb=>by cases hb)) (h.o 0 rfl))⟩
end
theorem zE3 {cs:List Tr.C} (h:Ck.check cs= []):Tr.validP cs=true:=by
 unfold Ck.check at h
 split at h
 ·assumption
 ·cases h
theorem Mz.retC {B0 V:Nat} {w W:World} {o0 ow:List Nat} {Q:World->Prop} {bs:List Bk} {os:List (World->Prop)} {R:Nat} {x0 y0 eu:Value} (h:Mz B0 V w o0 Q ow bs os W) (i:Nat) (hi:bs[i]? =some (R,#[y0],29)) {fn:Func} {q u:Tmp} {A:Act} (hr:fn.results= #[.cell q 29,.tmp u]) (hq:A.tmps.getD q undef= .pointer (some ⟨R,0,none⟩)) (hu:A.tmps.getD u undef=eu) (hd:A.defers= []) {Post:Ending->World->Prop}
 (hp:∀W',Mz B0 V w o0 Q ow (bs.set i (R,#[x0],29)) os W'->Post (.returned (.tuple #[.agg #[x0],eu])) W'):
 bodyPost prog fn Post .ret A (W.setCell ⟨R,0,none⟩ x0):=by
 have h2:=h.set i hi (zW W R 0 x0) (heap_set (j:=0) x0 (h.b i hi));have hil:i<bs.length:=(kJ.1 hi).1;have hS:=h2.b i (X:=R) (cs:= #[x0]) (by rw [List.getElem?_set,kD rfl,kD hil];rfl);subst hu;exact bodyPost_ret (v:= .tuple #[.agg #[x0],A.tmps.getD u undef]) (zA1 hr _ _ R _ _ _ _ hq hS underlying29 rfl (by kernel_rfl)) hd (hp _ h2)
def PPv (V:Nat) (cs:List Tr.C) (w:World) (e:Ending) (w':World):Prop:=
 Below w.heap.size w w'/\∃v,((Ck.check cs= []/\∃l,Co.ccsOf cs cs=some l/\e= .returned (.tuple #[.agg #[v],.int .i64 0])/\SlCc (hide (upL V []) w') v l)\/
  (v= .slice none 0 0/\∃n:Nat,e= .returned (.tuple #[.agg #[v],.int .i64 n])/\((∃r,Ck.check cs=n::r)\/(Ck.check cs= []/\Co.ccsOf cs cs=none/\n=8))))
abbrev PP (cs:List Tr.C) (w:World):Ending->World->Prop:=PPv w.heap.size cs w
theorem pp_bad {V:Nat} {cs:List Tr.C} {w w':World} {n:Nat} {r:List Nat} (h:Ck.check cs=n::r) (hb:Below w.heap.size w w'):PPv V cs w (.returned (.tuple #[.agg #[.slice none 0 0],.int .i64 n])) w':=⟨hb,_,.inr ⟨rfl,n,rfl,.inl ⟨r,h⟩⟩⟩
theorem zTI {V:Nat} {cs:List Tr.C} {w w':World} (h:Ck.check cs= []) (h2:Co.ccsOf cs cs=none) (hb:Below w.heap.size w w'):PPv V cs w (.returned (.tuple #[.agg #[.slice none 0 0],.int .i64 8])) w':=⟨hb,_,.inr ⟨rfl,8,rfl,.inr ⟨h,h2,rfl⟩⟩⟩
theorem pp_ok {V:Nat} {cs:List Tr.C} {w w':World} {l:List Co.Cc} {v:Value} (h:Ck.check cs= []) (h2:Co.ccsOf cs cs=some l) (hb:Below w.heap.size w w') (hs:SlCc (hide (upL V []) w') v l):PPv V cs w (.returned (.tuple #[.agg #[v],.int .i64 0])) w':=⟨hb,v,.inl ⟨h,l,h2,rfl,hs⟩⟩
end Cw
end
section
open Go.RowKit Go.Maps
structure CoEnv (w:World):Prop where
 syn:SynEnv w
 codes:∀j,j<13->w.cell? ⟨0,j,none⟩=some (.int .i64 (Ck.code j:Nat))
theorem CoEnv.keep {w w':World} (h:CoEnv w) (hb:Below w.heap.size w w'):CoEnv w':=⟨h.syn.keep hb,fun j hj=>zA hb (h.codes j hj)⟩
theorem zL7 (v:Value) (cs:List Tr.C) (w:World) (hE:CoEnv w) (h:SlC w v cs) (hsm:Ck.Small cs) (hfit:Tr.fitP cs):
 Calls prog 33 #[.agg #[v]] w (CheckPost cs w):=by
 obtain⟨i0,hi0,hz0,hz1,hz2⟩:=info_parts errInfo;obtain⟨pv,cpv,rfl⟩:=h.form;have hbx:=zD w (.cells #[.slice pv cs.length cpv] 24);have hcall:=zP5 _ cs _ ((hE.keep hbx).syn) hfit (h.keep hbx);have HH:=zh h;have HE:=zh hE;cases hv:Tr.validP cs
 ·rw [hv] at hcall;have hck:Hid (Ck.check cs= [1]):=by show _=_;unfold Ck.check;rw [hv];rfl
  have HC:=zh hcall;have HB:=zh hbx;obtain⟨CN,hCN⟩:∃N,cs.length=N:=⟨_,rfl⟩;rw [hCN] at HC HB |-;clear hE h hcall hv hbx hCN HH HE;go_in;go_wp2_with fail;refine HC.mono ?_;rintro e w2 ⟨rfl,hb2⟩;go_wp2;go_ret;have hB2:=HB.trans (hb2.mono HB.size);refine⟨_,rfl,?_,hB2.alloc hB2.size _⟩;rw [hck.out];exact⟨rfl,.inr ⟨w2.heap.size,1,#[.int .i64 1],rfl,hB2.size,(MapKept.heap_alloc w2 _).1,kL _,by decide,rfl,rfl⟩⟩
 ·rw [hv] at hcall;have hck:=zh (zPX cs hv);have HC:=zh hcall;have HB:=zh hbx;have KF:Hid (∀W,Below w.heap.size w W->Calls prog 55 #[.agg #[.slice pv cs.length cpv]] W (FaultsPost cs W)):=fun W hb=>zPU _ cs W (h.keep hb) hv hsm
  have hrl:=Ck.zFJ cs cs 0;have hcnt:=hsm.cnt;have hlen:(Ck.rows cs).length<=13000000:=by unfold Ck.rows;omega
  obtain⟨R,hR⟩:∃r,Ck.rows cs=r:=⟨_,rfl⟩;have hlt13:Hid (∀x∈R,x.2<13):=by rw [<-hR];exact zJ5 cs cs 0
  rw [hR] at hlen hck;have HR:=zh hR;have c0:=zJ w #[.slice pv cs.length cpv] 24 0 _ rfl;obtain⟨CN,hCN⟩:∃N,cs.length=N:=⟨_,rfl⟩;rw [hCN] at HC HB KF c0 |-;have C0:=zh c0;clear hE h hcall hv hbx hCN HH hsm hfit hrl hcnt hR c0;go_in;go_wp2_with fail;refine HC.mono ?_;rintro e w2 ⟨rfl,hb2⟩;have hB2:=zh (HB.trans (hb2.mono HB.size));have c0:=zA hb2 C0;clear hb2;go_wp2_with fail;refine(KF _ hB2).mono ?_;rintro e w3 ⟨fv,rfl,ho3,hb3⟩;rw [HR.out] at ho3;obtain⟨pf,cf,rfl⟩:=own_form ho3;have hB3:=zh (hB2.trans (hb3.mono hB2.size));have HO3:=zh ho3;have HE3:=zh (HE.keep hB3);obtain⟨N,hN⟩:∃N,R.length=N:=⟨_,rfl⟩;have HN:=zh hN;rw [hN] at hlen |-;clear hb3 ho3 c0 hN KF;go_wp2
  go_loopg [3,13] N (fun g s3 s13 wr=>∃k:Nat,s13= .int .i64 k/\k<=N/\g=N -k/\Hid (wr.ownsRow w3.heap.size 30 1 s3 k (codeCells ((R.take k).map fun x=>Ck.code x.2)))/\Hid (Below w3.heap.size w3 wr))
  case atStart=>exact ⟨0,rfl,kO _,rfl,zh (by simpa [codeCells] using World.ownsRow_nil w3 w3.heap.size 30 1),zh (Below.refl _ _)⟩
  case round=>
   obtain⟨k,rfl,hk,rfl,HO,HBR⟩:=hrel;by_cases hlt:k<N
   ·obtain⟨x,hx⟩:∃x,R[k]? =some x:=⟨_,kB (by rw [HN.out];exact hlt)⟩;obtain⟨g3,cap3,e3,hg3,hnc,q0,q1⟩:=zU5 HO3 hx;injection e3 with e31 e32 e33
    subst e31;subst e33;have r0:=zA HBR q0;have r1:=zA HBR q1;have hx13:=hlt13 x (kM hx);have hcd:=(HE3.keep HBR).codes x.2 hx13;have hgl:=zAR hcd;have HX:=zh hx;have hsz:=HBR.size;obtain⟨nm,t⟩:=x;simp only [] at r0 r1 hx13 hcd;clear q0 q1 e32 hx;go_wp2_with (at_builtin;refine wpList_append_own _ rfl _ _ 77 rfl w3.heap.size 30 i0 (.int .i64 0) 1 8 underlying77 hi0 hz0 hz1 hz2 rfl (by decide) _ _ _ rfl ((HO.alloc _).alloc _) ⟨wr.heap.size+1,0,none⟩ 1 1 [.int .i64 (Ck.code t:Nat)] rfl rfl (zBN (cs:= #[.int .i64 (Ck.code t:Nat)]) rfl (by simp)) (by simp [Value.oneCell']) (by unfold maxLen;omega) (by omega) (by simp<;>omega) ?_;intro v7 w7 ho7 hg7 _);go_roundg (N -(k+1))
    case measure=>omega
    case rel=>
     refine⟨k+1,by go_num,by omega,rfl,zh ?_,zh (((HBR.alloc (by omega) _).alloc (by simp<;>omega) _).grown hg7 (by simp<;>omega) fun q hq=>(HO.lt q hq).1)⟩;rw [zA3 HX.out,List.map_append];unfold codeCells at ho7 |-;rw [List.map_append];exact ho7
   ·obtain rfl:k=N:=by omega
    go_wp2;go_ret;refine⟨_,rfl,?_,hB3.trans (HBR.mono hB3.size)⟩;rw [hck.out,List.length_map,HN.out];have h9:=HO.out;rw [kR (by rw [HN.out];exact kL _)] at h9;exact zJ9 h9 hB3.size
end
section
namespace Cw
open Go.RowKit Go.Maps Pw
theorem zFL {cs:List Tr.C} {v:Value} {w:World} (hp:SlC w v cs) (hE:CoEnv w) (hsm:Ck.Small cs) (hfit:Tr.fitP cs) (hsz:cs.length<=1000/\∀c∈cs,Co.SmC 1000 c):
 Calls prog 12 #[.agg #[v]] w (PP cs w):=by
 have hp0:=hp;obtain⟨pp,cp,rfl,_⟩:=hp.form;have hlc:=hsz.1;obtain⟨CN,hCN⟩:∃q,cs.length=q:=⟨_,rfl⟩;rw [hCN] at hp0 hlc |-;have HP:=zh hp0;have HN:=zh hCN;have HE:=zh hE;have HSM:=zh hsm;have HFIT:=zh hfit;have HSZ:=zh hsz.2;have C0:=zh (Mp.start w);clear hp hp0 hCN hE hsm hfit hsz;obtain⟨P,w1,HX1,HW1,hx1,C1⟩:=C0.boxE #[.slice pp CN cp] 24;obtain⟨R,w2,HX2,HW2,hx2,C2⟩:=C1.boxE #[.slice none 0 0] 29;have HY2:Hid (R=P+1):=zh (by rw [HX2.out,HW1.out,HX1.out];simp);go_in;go_upto_region 1 with fail;rw [<-HX1.out,<-HW1.out,<-HY2.out,<-HW2.out];clear HX1 HW1 C0 HY2 HX2 HW2 C1;have HRL:=zh (C2.lt 0 rfl).2;have q1:=zS (C2.b 1 rfl);go_wp2_with fail;clear q1;refine(zL7 _ cs _ (HE.keep C2.gr.fresh) (HP.keep C2.gr.fresh) HSM HFIT).mono ?_;rintro e w3 ⟨v9,rfl,hown,hb⟩;have C4:=zh (C2.below hb);clear C2;clear hb;obtain⟨pk,ck,hvk⟩:=own_form hown;subst hvk;cases hck:Ck.check cs with
 |nil=>
  have HCK:=zh hck;have HVP:=zh (zE3 hck);clear hck hown;rw [kQ];obtain⟨OUT,w5,HX,HW,hx5,C5⟩:=C4.boxE #[.slice none 0 0] 29;go_upto_region 5 with fail;rw [<-HX.out,<-HW.out];clear HX HW C4;have q2:=zS (C5.b 2 rfl);go_wp2_with fail;clear q2
  go_loopg [25] CN (fun gg s25 wr=>∃(j:Nat) (dn:List CcT) (vo:Value),s25= .int .i64 j/\j<=CN/\gg=CN -j/\Hid (Co.ccsOf cs (cs.take j)=some (dn.map Prod.fst))/\Hid (Mp w dn [] vo (.slice none 0 0) [(OUT,#[vo],29),(R,#[.slice none 0 0],29),(P,#[.slice pp CN cp],24)] [AC dn] wr))
  case atStart=>exact ⟨0,[],.slice none 0 0,rfl,kO _,rfl,zh (by rw [List.take_zero];rfl),C5⟩
  case round=>
   clear C5;obtain⟨j,dn,vo,rfl,hj,rfl,HDN,CR⟩:=hrel;by_cases hlt:j<CN
   ·obtain⟨c,hc⟩:∃c,cs[j]? =some c:=⟨_,kB (by rw [HN.out];exact hlt)⟩;have HC:=zh hc;have HSC:=zh (HSZ c (kM hc));have HVC:Hid (c.methods.all Tr.validM=true):=zh (by
     have h9:=HVP.out;unfold Tr.validP at h9;have h8:=List.all_eq_true.1 h9 c (kM hc);unfold Tr.validC at h8;simp only [kW] at h8;exact h8.2)
    obtain⟨b1,o1,vf,vm,hpe,hblt0,⟨u0,u1,u2,u3⟩,hnm,hsf,hsm⟩:=HP.get hc;have hfr:=CR.gr.fresh;have x0:=zA hfr u0;have x1:=zA hfr u1;have x2:=zA hfr u2;have x3:=zA hfr u3;have hblt:=kP hblt0 hfr.size;clear u0 u1 u2 u3 hblt0 hfr;subst hpe;have HNMC:=zh hnm;have HSF:=zh hsf;have HSMM:=zh hsm;obtain⟨pf,cf,hvf,_,_⟩:=hsf;subst hvf;obtain⟨pm,cm,hvm,_,_⟩:=hsm;subst hvm;obtain⟨FN,hFN⟩:∃q,c.fields.length=q:=⟨_,rfl⟩;obtain⟨MN,hMN⟩:∃q,c.methods.length=q:=⟨_,rfl⟩;rw [hFN] at x2 HSF;rw [hMN] at x3 HSMM;have HMN:=zh hMN;have HFN:=zh hFN;have hmn:MN<=1000:=by rw [<-hMN];exact HSC.ms
    clear hc hnm hFN hMN;have b0j:(0:Int)<=(j:Int):=(by omega);have b3j:(j:Int)<(CN:Int):=(by omega);obtain⟨CB,w6,HX,HW,hx6,C6⟩:=CR.boxE #[.string c.name,.bool c.actor,.slice pf FN cf,.slice pm MN cm] 55;go_upto_region 8 with fail;rw [<-HX.out,<-HW.out];clear HX HW CR;clear x0 x1 x2 x3 hblt
    go_cut [8] (fun s8 wx=>∃(XB:Nat) (pg:Option Addr) (cg:Nat),s8= .pointer (some ⟨XB,0,none⟩)/\Hid (Mp w dn [] vo (.slice none 0 0) [(XB,#[.string c.name,.bool c.actor,.slice pg FN cg,.slice none 0 0],52),(CB,#[.string c.name,.bool c.actor,.slice pf FN cf,.slice pm MN cm],55),(OUT,#[vo],29),(R,#[.slice none 0 0],29),(P,#[.slice (some ⟨b1,o1,none⟩) CN cp],24)] [RN (.slice pg FN cg) c.fields,AC dn] wx))
    case first=>
     obtain⟨we,HWE,CE⟩:=C6.drewE;refine wp_region_held_drew (S:=fun W=>W.cell? ⟨CB,0,none⟩=some (.string c.name)/\W.cell? ⟨CB,1,none⟩=some (.bool c.actor)/\W.cell? ⟨CB,2,none⟩=some (.slice pf FN cf)) (by kernel_rfl) (by rw [<-HWE.out];exact⟨zB (CE.b 0 rfl) (j:=0) rfl,zB (CE.b 0 rfl) (j:=1) rfl,zB (CE.b 0 rfl) (j:=2) rfl⟩) (fun hH=>?_);rw [<-HWE.out] at hH |-;have HWQ:=HWE;clear HWE C6;refine rU 0 (some 29) ?_;refine rU 1 (some 30) ?_;refine rU 2 (some 31) ?_;refine rU 3 (some 32) ?_;refine rU 4 (some 33) ?_;refine rU 5 (some 34) ?_;clear hH;refine rR2 6 (some 35) 8 (some 8) (fun K hK=>?_) (fun K hK=>?_)
     ·go_simp;refine(clone_any (.slice pf FN cf) c.fields we (HSF.keep CE.gr.fresh) (by have:=HSC.fs;omega)).mono ?_;rintro e w7 ⟨v8,rfl,hb8,hs8⟩;have hs7:=hs8;obtain⟨pg,cg,hvg,_,_⟩:=hs7;rw [HFN.out] at hvg;subst hvg;have C7:=zh (Mz.add CE (r:=RN (.slice pg FN cg) c.fields) hb8 rn_mn hs8);clear hb8 hs8 CE;go_wp2;refine hK _ _ ?_ (fun hH=>?_)
      ·exact⟨zB (C7.b 0 rfl) (j:=0) rfl,zB (C7.b 0 rfl) (j:=1) rfl,zB (C7.b 0 rfl) (j:=2) rfl⟩
      clear hK K
      try simp only [Act.put,q0,q1,q2]
      refine rU 7 (some 36) ?_;clear hH;refine rR1 8 (some 8) (fun K hK=>?_);obtain⟨XB,w8,HX,HW,hx8,C8⟩:=C7.boxE #[.string ⟨#[]⟩,.bool false,.slice none 0 0,.slice none 0 0] 52;go_simp;rw [<-HX.out,<-HW.out];clear HX HW C7;refine hK _ _ ?_ (fun hH=>?_)
      ·exact⟨zB (C8.b 1 rfl) (j:=0) rfl,zB (C8.b 1 rfl) (j:=1) rfl,zB (C8.b 1 rfl) (j:=2) rfl⟩
      clear hK K
      try simp only [Act.put,q0,q1,q2]
      clear hH;refine rR1 9 none (fun K hK=>?_);have q0:=cells4 (C8.b 0 rfl);obtain⟨w9,HW⟩:∃q,Hid (q=((((w8.setCell ⟨XB,0,none⟩ (.string c.name)).setCell ⟨XB,1,none⟩ (.bool c.actor)).setCell ⟨XB,2,none⟩ (.slice pg FN cg)).setCell ⟨XB,3,none⟩ (.slice none 0 0))):=⟨_,zh rfl⟩;have C9:=zh ((C8.set (W':=w9) 0 rfl (by rw [HW.out];exact zAQ (zAQ (zAQ (zW w8 XB 0 (.string c.name)) (zW (w8.setCell ⟨XB,0,none⟩ (.string c.name)) XB 1 (.bool c.actor))) (zW ((w8.setCell ⟨XB,0,none⟩ (.string c.name)).setCell ⟨XB,1,none⟩ (.bool c.actor)) XB 2 (.slice pg FN cg))) (zW (((w8.setCell ⟨XB,0,none⟩ (.string c.name)).setCell ⟨XB,1,none⟩ (.bool c.actor)).setCell ⟨XB,2,none⟩ (.slice pg FN cg)) XB 3 (.slice none 0 0))) (by rw [HW.out];exact(heap_set (j:=3) (.slice none 0 0) (heap_set (j:=2) (.slice pg FN cg) (heap_set (j:=1) (.bool c.actor) (heap_set (j:=0) (.string c.name) (C8.b 0 rfl))))))).nrm (bs':= [(XB,#[.string c.name,.bool c.actor,.slice pg FN cg,.slice none 0 0],52),(CB,#[.string c.name,.bool c.actor,.slice pf FN cf,.slice pm MN cm],55),(OUT,#[vo],29),(R,#[.slice none 0 0],29),(P,#[.slice (some ⟨b1,o1,none⟩) CN cp],24)]) rfl);go_simp;rw [<-HW.out];clear HW C8 q0;refine hK _ _ ?_ (fun hH=>?_)
      ·exact⟨zB (C9.b 1 rfl) (j:=0) rfl,zB (C9.b 1 rfl) (j:=1) rfl,zB (C9.b 1 rfl) (j:=2) rfl⟩
      clear hK K
      try simp only [Act.put,q0,q1,q2]
      refine wpAnyH_done (by kernel_rfl) ?_ _;clear hH;go_wp2;go_meet;exact⟨XB,pg,cg,rfl,C9⟩
     ·obtain⟨XB,w10,HX,HW,hx10,C10⟩:=CE.boxE #[.string ⟨#[]⟩,.bool false,.slice none 0 0,.slice none 0 0] 52;go_simp;rw [<-HX.out,<-HW.out];clear HX HW CE;refine hK _ _ ?_ (fun hH=>?_)
      ·exact⟨zB (C10.b 1 rfl) (j:=0) rfl,zB (C10.b 1 rfl) (j:=1) rfl,zB (C10.b 1 rfl) (j:=2) rfl⟩
      clear hK K
      try simp only [Act.put,q0,q1,q2]
      clear hH;refine rR1 6 (some 35) (fun K hK=>?_);go_simp;refine(clone_any (.slice pf FN cf) c.fields w10 (HSF.keep C10.gr.fresh) (by have:=HSC.fs;omega)).mono ?_;rintro e w11 ⟨v8,rfl,hb8,hs8⟩;have hs7:=hs8;obtain⟨pg,cg,hvg,_,_⟩:=hs7;rw [HFN.out] at hvg;subst hvg;have C11:=zh (Mz.add C10 (r:=RN (.slice pg FN cg) c.fields) hb8 rn_mn hs8);clear hb8 hs8 C10;go_wp2;refine hK _ _ ?_ (fun hH=>?_)
      ·exact⟨zB (C11.b 1 rfl) (j:=0) rfl,zB (C11.b 1 rfl) (j:=1) rfl,zB (C11.b 1 rfl) (j:=2) rfl⟩
      clear hK K
      try simp only [Act.put,q0,q1,q2]
      refine rU 7 (some 36) ?_;clear hH;refine rR1 9 none (fun K hK=>?_);have q0:=cells4 (C11.b 0 rfl);obtain⟨w12,HW⟩:∃q,Hid (q=((((w11.setCell ⟨XB,0,none⟩ (.string c.name)).setCell ⟨XB,1,none⟩ (.bool c.actor)).setCell ⟨XB,2,none⟩ (.slice pg FN cg)).setCell ⟨XB,3,none⟩ (.slice none 0 0))):=⟨_,zh rfl⟩;have C12:=zh ((C11.set (W':=w12) 0 rfl (by rw [HW.out];exact zAQ (zAQ (zAQ (zW w11 XB 0 (.string c.name)) (zW (w11.setCell ⟨XB,0,none⟩ (.string c.name)) XB 1 (.bool c.actor))) (zW ((w11.setCell ⟨XB,0,none⟩ (.string c.name)).setCell ⟨XB,1,none⟩ (.bool c.actor)) XB 2 (.slice pg FN cg))) (zW (((w11.setCell ⟨XB,0,none⟩ (.string c.name)).setCell ⟨XB,1,none⟩ (.bool c.actor)).setCell ⟨XB,2,none⟩ (.slice pg FN cg)) XB 3 (.slice none 0 0))) (by rw [HW.out];exact(heap_set (j:=3) (.slice none 0 0) (heap_set (j:=2) (.slice pg FN cg) (heap_set (j:=1) (.bool c.actor) (heap_set (j:=0) (.string c.name) (C11.b 0 rfl))))))).nrm (bs':= [(XB,#[.string c.name,.bool c.actor,.slice pg FN cg,.slice none 0 0],52),(CB,#[.string c.name,.bool c.actor,.slice pf FN cf,.slice pm MN cm],55),(OUT,#[vo],29),(R,#[.slice none 0 0],29),(P,#[.slice (some ⟨b1,o1,none⟩) CN cp],24)]) rfl);go_simp;rw [<-HW.out];clear HW C11 q0;refine hK _ _ ?_ (fun hH=>?_)
      ·exact⟨zB (C12.b 1 rfl) (j:=0) rfl,zB (C12.b 1 rfl) (j:=1) rfl,zB (C12.b 1 rfl) (j:=2) rfl⟩
      clear hK K
      try simp only [Act.put,q0,q1,q2]
      refine wpAnyH_done (by kernel_rfl) ?_ _;clear hH;go_wp2;go_meet;exact⟨XB,pg,cg,rfl,C12⟩
    case rest=>
    clear C6;obtain⟨XB,pg,cg,rfl,CX⟩:=hcut;obtain⟨w8,hw8⟩:∃q,q=wc:=⟨_,rfl⟩;rw [<-hw8] at CX |-;clear hw8;have C13:Hid (Mp w dn [] vo (.slice none 0 0) [(XB,#[.string c.name,.bool c.actor,.slice pg FN cg,.slice none 0 0],52),(CB,#[.string c.name,.bool c.actor,.slice pf FN cf,.slice pm MN cm],55),(OUT,#[vo],29),(R,#[.slice none 0 0],29),(P,#[.slice (some ⟨b1,o1,none⟩) CN cp],24)] [AM [],RN (.slice pg FN cg) c.fields,AC dn] w8):=zh ((CX.get (r:=AM []) am_mn (fun x hx=>by cases hx)));clear CX;have q1:=cells4 (C13.b 1 rfl);go_wp2_with fail;clear q1
    go_loopg [40] MN (fun gg s40 wr=>∃(k:Nat) (ms:List MmT) (vm:Value),s40= .int .i64 k/\k<=MN/\gg=MN -k/\Hid (Co.cmsOf cs c (c.methods.take k)=some (ms.map Prod.fst))/\Hid (Mp w dn ms vo (vm) [(XB,#[.string c.name,.bool c.actor,.slice pg FN cg,vm],52),(CB,#[.string c.name,.bool c.actor,.slice pf FN cf,.slice pm MN cm],55),(OUT,#[vo],29),(R,#[.slice none 0 0],29),(P,#[.slice (some ⟨b1,o1,none⟩) CN cp],24)] [AM ms,RN (.slice pg FN cg) c.fields,AC dn] wr))
    case atStart=>exact ⟨0,[],.slice none 0 0,rfl,kO _,rfl,zh (by rw [List.take_zero];rfl),C13⟩
    case round=>
     clear C13;obtain⟨k,ms,vm,rfl,hk,rfl,HMS,CI⟩:=hrel;by_cases hlk:k<MN
     ·obtain⟨m,hm⟩:∃m,c.methods[k]? =some m:=⟨_,kB (by rw [HMN.out];exact hlk)⟩;have HM:=zh hm;have HSD:=zh (HSC.all m (kM hm));have HVM:Hid (Tr.zV m.body=true):=zh (by
       have h8:=List.all_eq_true.1 HVC m (kM hm);unfold Tr.validM at h8;simp only [kW] at h8;exact h8.2)
      obtain⟨b2,o2,vx,vy,hpe,hblt0,⟨u0,u1,u2⟩,hnm,hsx,hsy⟩:=HSMM.get hm;have hfr:=CI.gr.fresh;have x0:=zA hfr u0;have x1:=zA hfr u1;have x2:=zA hfr u2;have hblt:=kP hblt0 hfr.size;clear u0 u1 u2 hblt0 hfr;subst hpe;have HNMM:=zh hnm;have HSX:=zh hsx;have HSY:=zh hsy;obtain⟨px,cx,hvx,_,_⟩:=hsx;subst hvx;obtain⟨py,cy,hvy,_⟩:=hsy.form;subst hvy;obtain⟨PN,hPN⟩:∃q,m.params.length=q:=⟨_,rfl⟩;obtain⟨YN,hYN⟩:∃q,m.body.length=q:=⟨_,rfl⟩;rw [hPN] at x1 HSX;rw [hYN] at x2 HSY;have HPN:=zh hPN;have HMSL:Hid (ms.length<=1000):=zh (by have h9:=(Co.zII HMS).1;rw [List.length_map,List.length_take] at h9;omega);clear hm hnm hsy hPN hYN;have b0k:(0:Int)<=(k:Int):=(by omega);have b3k:(k:Int)<(MN:Int):=(by omega);skip;obtain⟨MB,w14,HX,HW,hx14,C14⟩:=CI.boxE #[.string m.name,.slice px PN cx,.slice py YN cy] 62;go_upto_region 12 with fail;rw [<-HX.out,<-HW.out];clear HX HW CI;clear x0 x1 x2 hblt;have q5:=zS (C14.b 5 rfl);have q2:=cells4 (C14.b 2 rfl);have q0:=cells3 (C14.b 0 rfl);go_wp2_with fail;clear q5 q2 q0;refine(method_any (HP.keep C14.gr.fresh) ((HSF.keep C14.gr.fresh)) ⟨_,_,_,rfl⟩ (HSX.keep C14.gr.fresh) (HSY.keep C14.gr.fresh) HVM HNMM (by have h9:=HSD.ps;have h8:=HSD.w;omega)).mono ?_;rintro e w15 ⟨hb9,hmp⟩;cases hg9:Co.gM cs c m with
      |none=>
       rw [hg9] at hmp;subst hmp;have HLG:Hid (Co.ccsOf cs cs=none):=zh (Co.zJT (kM HC) (Co.zJS (kM HM) hg9));have C17:=zh (C14.below hb9);clear C14;clear hb9 hg9;obtain⟨CM,w18,HX,HW,hx18,C18⟩:=C17.boxE #[.string ⟨#[]⟩,.int .i64 0,.int .i64 0,.slice none 0 0,.slice none 0 0] 59;go_upto_region 13 with fail;rw [<-HX.out,<-HW.out];clear HX HW C17;have q5:=zS (C18.b 5 rfl);go_wp2;refine Mz.retC C18 5 rfl results12 rfl rfl rfl (fun W9 h9=>zTI HCK HLG h9.gr.fresh)
      |some g=>
       rw [hg9] at hmp;obtain⟨cv9,nv9,he9,hc9,hn9⟩:=hmp;subst he9;have hc8:=hc9;have hn8:=hn9;obtain⟨pI,cI,hI,_,_⟩:=hc8;obtain⟨pN,cN,hNN,_,_⟩:=hn8;subst hI;subst hNN;obtain⟨IN,hIN⟩:∃q,g.code.length=q:=⟨_,rfl⟩;obtain⟨NN,hNN2⟩:∃q,g.names.length=q:=⟨_,rfl⟩;obtain⟨LN,hLN⟩:∃q,g.locals=q:=⟨_,rfl⟩;rw [hIN] at hc9 |-;rw [hNN2] at hn9 |-;rw [hLN,HPN.out];have C16:=zh (Mz.add C14 (r:=R1 (Co.cmOf m g,Value.slice pI IN cI,Value.slice pN NN cN)) hb9 r1_mn ⟨HNMM,hc9,hn9⟩);have HMK:Hid (Co.cmsOf cs c (c.methods.take (k+1))=some ((ms++ [(Co.cmOf m g,Value.slice pI IN cI,Value.slice pN NN cN)]).map Prod.fst)):=zh (by rw [zE8 HM.out,List.map_append];exact Co.zL6 HMS hg9);have HLN:=zh hLN;clear C14 hb9 hg9 hc9 hn9 hIN hNN2 hLN;obtain⟨CM,w19,HX,HW,hx19,C19⟩:=C16.boxE #[.string m.name,.int .i64 PN,.int .i64 LN,.slice pI IN cI,.slice pN NN cN] 59;go_upto_region 13 with fail;rw [<-HX.out,<-HW.out];clear HX HW C16;go_upto_region 15 with fail;obtain⟨i0,hi0,hz0,hz1,hz2⟩:=info_parts cmInfo;obtain⟨G,wg,HG,HWG,hxg,CG⟩:=C19.boxE #[.string m.name,.int .i64 PN,.int .i64 LN,.slice pI IN cI,.slice pN NN cN] 59;have q2:=cells4 (C19.b 2 rfl);have q0:=zX (C19.b 0 rfl);go_wp2_with (at_builtin;rw [<-HG.out,<-HWG.out];refine zDJ zHW rfl _ _ 50 rfl i0 (.agg #[.string ⟨#[]⟩,.int .i64 0,.int .i64 0,.slice none 0 0,.slice none 0 0]) 80 underlying50 hi0 hz0 hz1 hz2 rfl (by decide) rfl CG.q.mts G #[.string m.name,.int .i64 PN,.int .i64 LN,.slice pI IN cI,.slice pN NN cN] (Co.cmOf m g,Value.slice pI IN cI,Value.slice pN NN cN) rfl (CG.b 0 rfl) (by rw [<-HPN.out,<-HLN.out];rfl) (zM2 (CG.o 0 rfl)) (by have h9:=HMSL.out;unfold maxLen;omega) (by have h9:=HMSL.out;omega) (kG CG.hB CG.le) ?_;intro v9 wa hr9 hg9 hf9;have CA:=zh (Mp.pushM CG hr9 hg9 hf9).tl;obtain⟨pc,cc,hv9⟩:=own_form hr9;subst hv9;have hxb:=CA.b 2 (X:=XB) rfl;have gla:=lt_of_block hxb;have ga3:=zB hxb (j:=3) (u:=vm) rfl;have gaf3:=zP hxb 3;clear hr9 hg9 hf9 hxb CG q2 q0);have hl9:(ms++ [(Co.cmOf m g,Value.slice pI IN cI,Value.slice pN NN cN)]).length=ms.length+1:=(by simp);rw [hl9] at CA;have CT:=zh CA.tl.tl;obtain⟨wz,HWZ⟩:∃q,Hid (q=wa.setCell ⟨XB,3,none⟩ (.slice pc (ms.length+1) cc)):=⟨_,zh rfl⟩;have CZ:Hid (Mp w dn (ms++ [(Co.cmOf m g,Value.slice pI IN cI,Value.slice pN NN cN)]) vo (.slice pc (ms.length+1) cc) [(XB,#[.string c.name,.bool c.actor,.slice pg FN cg,.slice pc (ms.length+1) cc],52),(CB,#[.string c.name,.bool c.actor,.slice pf FN cf,.slice (some ⟨b2,o2,none⟩) MN cm],55),(OUT,#[vo],29),(R,#[.slice none 0 0],29),(P,#[.slice (some ⟨b1,o1,none⟩) CN cp],24)] [AM (ms++ [(Co.cmOf m g,Value.slice pI IN cI,Value.slice pN NN cN)]),RN (.slice pg FN cg) c.fields,AC dn] wz):=zh ((CT.set 0 rfl (by rw [HWZ.out];exact zW wa XB 3 _) (by rw [HWZ.out];exact heap_set (j:=3) _ (CT.b 0 rfl))).nrm rfl);rw [<-HWZ.out];clear HWZ CT CA gla ga3 gaf3;go_roundg (MN -(k+1))
       case measure=>omega
       case rel=>exact ⟨k+1,_,_,by go_num,by omega,rfl,HMK,CZ⟩
     ·obtain rfl:MN=k:=by omega
      have HMS2:Hid (Co.cmsOf cs c c.methods=some (ms.map Prod.fst)):=zh (by have h9:=HMS.out;rw [kR (by rw [HMN.out];exact kL _)] at h9;exact h9);obtain⟨pv9,cv9,hv9⟩:=own_form CI.q.mts;obtain⟨ML,hML⟩:∃q,ms.length=q:=⟨_,rfl⟩;rw [hML] at hv9;subst hv9;have CS:=zh (Mp.seal CI);have HDL:Hid (dn.length<=1000):=zh (by have h9:=(Co.zIL HDN).1;rw [List.length_map,List.length_take] at h9;omega);have HDK:Hid (Co.ccsOf cs (cs.take (j+1))=some ((dn++ [(Co.ccOf c (ms.map Prod.fst),Value.slice pg FN cg,Value.slice pv9 ML cv9)]).map Prod.fst)):=zh (by rw [zE8 HC.out,List.map_append];exact Co.zL8 HDN HMS2);clear CI HMS hML hk hlk;obtain⟨i0,hi0,hz0,hz1,hz2⟩:=info_parts ccInfo;obtain⟨G,wg,HG,HWG,hxg,CG⟩:=CS.boxE #[.string c.name,.bool c.actor,.slice pg FN cg,.slice pv9 ML cv9] 52;have q0:=cells4 (CS.b 0 rfl);have q2:=zS (CS.b 2 rfl);go_wp2_with (at_builtin;rw [<-HG.out,<-HWG.out];refine zDJ zIM rfl _ _ 27 rfl i0 (.agg #[.string ⟨#[]⟩,.bool false,.slice none 0 0,.slice none 0 0]) 72 underlying27 hi0 hz0 hz1 hz2 rfl (by decide) rfl CG.q.cls G #[.string c.name,.bool c.actor,.slice pg FN cg,.slice pv9 ML cv9] (Co.ccOf c (ms.map Prod.fst),Value.slice pg FN cg,Value.slice pv9 ML cv9) rfl (CG.b 0 rfl) rfl (zNJ ⟨HNMC.out,CG.o 1 rfl,CG.o 0 rfl⟩) (by have h9:=HDL.out;unfold maxLen;omega) (by have h9:=HDL.out;omega) (kG CG.hB CG.le) ?_;intro v9 wa hr9 hg9 hf9;have CA:=zh (Mp.pushC CG.out HNMC.out hr9 hg9 hf9).tl;obtain⟨pc,cc,hv9⟩:=own_form hr9;subst hv9;have hxb:=CA.b 2 (X:=OUT) rfl;have gla:=lt_of_block hxb;have ga0:=zB hxb (j:=0) (u:=vo) rfl;have gaf0:=zP hxb 0;clear hr9 hg9 hf9 hxb CG q0 q2);have hl9:(dn++ [(Co.ccOf c (ms.map Prod.fst),Value.slice pg FN cg,Value.slice pv9 ML cv9)]).length=dn.length+1:=(by simp);rw [hl9] at CA;have CT:=zh CA.tl.tl;obtain⟨wz,HWZ⟩:∃q,Hid (q=wa.setCell ⟨OUT,0,none⟩ (.slice pc (dn.length+1) cc)):=⟨_,zh rfl⟩;have CZ:Hid (Mp w (dn++ [(Co.ccOf c (ms.map Prod.fst),Value.slice pg FN cg,Value.slice pv9 ML cv9)]) [] (.slice pc (dn.length+1) cc) (.slice none 0 0) [(OUT,#[(.slice pc (dn.length+1) cc)],29),(R,#[.slice none 0 0],29),(P,#[.slice (some ⟨b1,o1,none⟩) CN cp],24)] [AC (dn++ [(Co.ccOf c (ms.map Prod.fst),Value.slice pg FN cg,Value.slice pv9 ML cv9)])] wz):=zh ((CT.set 0 rfl (by rw [HWZ.out];exact zW wa OUT 0 _) (by rw [HWZ.out];exact heap_set (j:=0) _ (CT.b 0 rfl))).nrm rfl);rw [<-HWZ.out];clear HWZ CT CA gla ga0 gaf0;go_roundg (CN -(j+1))
      case measure=>omega
      case rel=>exact ⟨j+1,_,_,by go_num,by omega,rfl,HDK,CZ⟩
   ·obtain rfl:CN=j:=by omega
    have HDN2:Hid (Co.ccsOf cs cs=some (dn.map Prod.fst)):=zh (by have h9:=HDN.out;rw [kR (by rw [HN.out];exact kL _)] at h9;exact h9);obtain⟨po,co,hv9⟩:=own_form CR.q.cls;obtain⟨ON,hON⟩:∃q,dn.length=q:=⟨_,rfl⟩;rw [hON] at hv9;subst hv9;clear HDN hON hlt hj;have q0:=zS (CR.b 0 rfl);have q1:=zS (CR.b 1 rfl);go_wp2;refine Mz.retC CR 1 rfl results12 rfl rfl rfl (fun W9 h9=>?_);obtain⟨hb9,hs9⟩:=Mp.fin h9;exact pp_ok HCK HDN2 hb9 hs9
 |cons n r=>
  rw [hck] at hown;have HCK:=zh hck;obtain⟨gk,hgk,hRk,hk0⟩:∃g,pk=some ⟨g,0,none⟩/\R<g/\Hid (w3.cell? ⟨g,0,none⟩=some (.int .i64 (n:Nat))):=by
   rcases hown.2 with ⟨e,_⟩|⟨g,cap,cur,e,hbg,hg,hnc,_,_,ht⟩
   ·injection e with _ e _
    cases e
   ·injection e with e1 e2 e3
    refine⟨g,e1,kP HRL hbg,zh (zB hg ?_)⟩;have h9:(List.take ((n::r).length*1) cur.toList)[0]? =some (.int .i64 (n:Nat)):=by rw [ht];rfl
    rw [List.getElem?_take_of_lt (by simp),Array.getElem?_toList] at h9;exact h9
  subst hgk;obtain⟨KN,hKN⟩:∃q,(n::r).length=q:=⟨_,rfl⟩;have hkp:(0:Int)<(KN:Int):=by rw [<-hKN,kI];omega
  rw [hKN];have HKC:=hk0;clear hck hown hKN hk0;go_upto_region 3 with fail;obtain⟨wd,HWD,CD⟩:=C4.drewE;have HC0:Hid (wd.cell? ⟨gk,0,none⟩=some (.int .i64 (n:Nat))):=zh (by rw [HWD.out];exact HKC);have HNE:Hid (gk≠R):=zh (by omega);refine wp_region_held_drew (S:=fun W=>W.cell? ⟨gk,0,none⟩=some (.int .i64 (n:Nat))) (by kernel_rfl) (by rw [<-HWD.out];exact HC0) (fun hH=>?_);rw [<-HWD.out] at hH |-;clear HWD C4;refine rU 0 (some 18) ?_;refine rU 1 (some 19) ?_;refine rU 2 (some 20) ?_;refine rU 3 (some 21) ?_;clear hH;have q0:=zS (CD.b 0 rfl);refine rR1 4 none (fun K hK=>?_);go_simp;clear q0;refine hK _ _ ?_ (fun hH=>?_)
  ·exact zGB (zW wd R 0 _) HC0 (ne_sm HNE)
  clear hK K
  try simp only [Act.put,q0,q1,q2]
  refine rU 5 (some 3) ?_;refine wpAnyH_done (by kernel_rfl) ?_ _;go_wp2;refine Mz.retC CD 0 rfl results12 rfl rfl rfl (fun W9 h9=>pp_bad HCK h9.gr.fresh)
end Cw
end
end Go.Proofs.YtcnmfcgmnkncaaaGreatDoor
